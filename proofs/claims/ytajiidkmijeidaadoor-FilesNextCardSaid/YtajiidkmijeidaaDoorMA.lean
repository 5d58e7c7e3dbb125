import Derived.WalkKit
import Derived.Below
import Derived.Lib.Hide
import Derived.Deep.QuietTactic
import Derived.Maps.RangeWalk
import Derived.Maps.OwnSet
import Derived.Maps.OwnOps
import Derived.Test.YtajiidkmijeidaaDoorProg
import Derived.Deep.Draws
import Derived.Deep.AppendLies
import Derived.Maps.AppendAt
import Derived.OwnWalk
import Derived.Laws.BytesArg
import Derived.Laws.MakeOwn
import Derived.Laws.OwnMore
import Derived.Deep.OwnRows
import Derived.Tactics
import Derived.Lib.ConvBytes
import Derived.Laws.Slices
import Derived.KernelRfl
import Derived.RowKit3
import Derived.Deep.LoopGhost
import Derived.BigQuiet
import Derived.WideLaws
import Derived.Deep.DeepCutAuto
import Derived.Deep.CutBlock
import Derived.Deep.RegionHeld3
import Derived.Laws.Rows
import Derived.Lib.AppendStr
import Derived.ArgAppend
import Derived.Laws.IdiomCopy
import Derived.OrdersHeld
import Derived.Laws.BitsLemmas
import Derived.RowKit
import Derived.Test.YtajiidkmijeidaaDoorWWords
import Derived.Test.YtajiidkmijeidaaDoorWLast
import Derived.Test.YtajiidkmijeidaaDoorWTab
import Derived.Test.YtajiidkmijeidaaDoorWFour
import Derived.Test.YtajiidkmijeidaaDoorWQPut
import Derived.Test.YtajiidkmijeidaaDoorWApart
import Derived.Test.YtajiidkmijeidaaDoorWArr
import Derived.Test.YtajiidkmijeidaaDoorWZeros
import Derived.Test.YtajiidkmijeidaaDoorWFoot
import Derived.Test.YtajiidkmijeidaaDoorWKept
import Derived.Test.YtajiidkmijeidaaDoorWShare
import Derived.Test.YtajiidkmijeidaaDoorWN
import Derived.Test.YtajiidkmijeidaaDoorWFootNe
import Derived.Test.YtajiidkmijeidaaDoorWAt
import Derived.Test.YtajiidkmijeidaaDoorWEqStruct
import Derived.Test.YtajiidkmijeidaaDoorWRepsOne
import Derived.Test.YtajiidkmijeidaaDoorWInv
import Derived.Test.YtajiidkmijeidaaDoorWInvWords
import Derived.Test.YtajiidkmijeidaaDoorWGuard
import Derived.Test.YtajiidkmijeidaaDoorWNEv
import Derived.Test.YtajiidkmijeidaaDoorWMore
import Derived.Test.YtajiidkmijeidaaDoorWSized
import Derived.Maps.Own
import Derived.Sort.KeysCollected
import Derived.Outline
import Derived.Test.YtajiidkmijeidaaDoorShelf
import Derived.OwnWalkIn
import Derived.StringKeys
import Derived.WalkLawsBesides
import Derived.Deep.RegionLaw
import Derived.StillTailTactics
/- Several texts of this session in one (merge.py): the walks of the functions that the laws reach. -/
/- What a call may change: the blocks of a set, and whatever is new. -/
namespace Go.Proofs.YtajiidkmijeidaaDoor.Fr
set_option linter.unusedVariables false
set_option linter.unusedSimpArgs false
open Go.RowKit
/-- W is w, but for blocks of S, and blocks that are new. -/
structure Chg (S : Nat → Prop) (w W : World) : Prop where
  os : W.os = w.os
  tape : W.tape = w.tape
  output : W.output = w.output
  size : w.heap.size ≤ W.heap.size
  block : ∀ k, k < w.heap.size → ¬ S k → W.heap[k]? = w.heap[k]?
section
variable {S S' : Nat → Prop} {w W W2 : World}
theorem Chg.refl (S : Nat → Prop) (w : World) : Chg S w w := ⟨rfl, rfl, rfl, Nat.le_refl _, fun _ _ _ => rfl⟩
theorem Chg.of_below (h : Below w.heap.size w W) (S : Nat → Prop) : Chg S w W := ⟨h.os, h.tape, h.output, h.size, fun k hk _ => h.block k hk⟩
theorem Chg.mono (h : Chg S w W) (hs : ∀ k, k < w.heap.size → S k → S' k) : Chg S' w W := ⟨h.os, h.tape, h.output, h.size, fun k hk hn => h.block k hk fun e => hn (hs k hk e)⟩
theorem Chg.trans (h : Chg S w W) (k : Chg S' W W2) (hs : ∀ i, i < w.heap.size → S' i → S i) : Chg S w W2 :=
  ⟨k.os.trans h.os, k.tape.trans h.tape, k.output.trans h.output, Nat.le_trans h.size k.size, fun i hi hn => (k.block i (Nat.lt_of_lt_of_le hi h.size) fun e => hn (hs i hi e)).trans (h.block i hi hn)⟩
theorem Chg.below (h : Chg S w W) (hb : Below W.heap.size W W2) : Chg S w W2 := h.trans (Chg.of_below hb fun _ => False) fun _ _ e => e.elim
theorem Chg.alloc (h : Chg S w W) (o : Obj) : Chg S w (W.alloc o) := h.below ((Below.refl _ _).alloc (Nat.le_refl _) _)
theorem Chg.drew (h : Chg S w W) : Chg S w W.drew := ⟨h.os, h.tape, h.output, h.size, h.block⟩
theorem Chg.drewN (h : Chg S w W) (n : Nat) : Chg S w (W.drewN n) := ⟨h.os, h.tape, h.output, h.size, h.block⟩
theorem Chg.setCell (h : Chg S w W) {p : Addr} (hp : p.block < w.heap.size → S p.block) (u : Value) : Chg S w (W.setCell p u) :=
  ⟨h.os, h.tape, h.output, by simpa using h.size, fun k hk hn => (Below.heap_setCell W p u k fun e => hn (by subst e; exact hp hk)).trans (h.block k hk hn)⟩
theorem Chg.grown (h : Chg S w W) {row : Option Nat} (hg : W.grownBy W2 row) (hr : ∀ k, row = some k → k < w.heap.size → S k) : Chg S w W2 :=
  ⟨hg.os.trans h.os, hg.tape.trans h.tape, hg.output.trans h.output, Nat.le_trans h.size hg.size, fun k hk hn => (hg.block k (Nat.lt_of_lt_of_le hk h.size) fun e => hn (hr k e.symm hk)).trans (h.block k hk hn)⟩
/-- All that may change is new since B: it is as it was below B. -/
theorem Chg.to_below (h : Chg S w W) {B : Nat} (hB : B ≤ w.heap.size) (hs : ∀ k, S k → B ≤ k) : Below B w W :=
  ⟨h.os, h.tape, h.output, h.size, fun k hk => h.block k (by omega) fun e => by have := hs k e; omega⟩
theorem Chg.cell (h : Chg S w W) {p : Addr} (hp : p.block < w.heap.size) (hn : ¬ S p.block) : W.cell? p = w.cell? p := World.cell?_of_block (h.block _ hp hn)
theorem Chg.frozen (h : Chg S w W) {p : Addr} (hp : p.block < w.heap.size) (hn : ¬ S p.block) : W.frozen? p = w.frozen? p := World.frozen?_of_block (h.block _ hp hn)
theorem Chg.frame (h : Chg S w W) (may : MemPlace → Prop) (hs : ∀ k, ¬ (S k ∧ k < w.heap.size)) : Below w.heap.size w W := ⟨h.os, h.tape, h.output, h.size, fun k hk => h.block k hk fun e => hs k ⟨e, hk⟩⟩
end
end Go.Proofs.YtajiidkmijeidaaDoor.Fr
namespace Go.Proofs.YtajiidkmijeidaaDoor.F
open Go.RowKit Go.Proofs.YtajiidkmijeidaaDoorW.PrintWords Go.Proofs.YtajiidkmijeidaaDoorW.PrintLast Go.Proofs.YtajiidkmijeidaaDoorW.PrintMore
attribute [local go_sem] max2_int min2_int max_two min_two max_three min_three max_four min_four   -- for this text's walks alone
set_option linter.unusedVariables false
set_option linter.unusedSimpArgs false



def errW : Option Int → Value
  | none => .nilIface
  | some c => .iface 0 (.int .i64 c)
theorem errW_none : errW none = .nilIface := rfl
theorem errW_some (c : Int) : errW (some c) = .iface 0 (.int .i64 c) := rfl

theorem info90 : (Tryd.prog.info? 90).map (fun i => (i.zero, i.size, i.bytes)) = some (some (.agg #[(.string ⟨#[]⟩), (.string ⟨#[]⟩), (.int .i64 0)]), 3, 40) := by kernel_rfl
-- the values' own types
/-! #### struct type 34 -/
structure S34 where
  f0 : Int
  f1 : Int
  f2 : Int
  f3 : ByteArray
  f4 : ByteArray
def z34 : S34 := ⟨(0 : Int), (0 : Int), (0 : Int), (⟨#[]⟩ : ByteArray), (⟨#[]⟩ : ByteArray)⟩
def k34 : Kd S34 := Kd.iso (Kd.pair (Kd.int .i64) (Kd.pair (Kd.int .i64) (Kd.pair (Kd.int .i64) (Kd.pair Kd.string Kd.string)))) (fun x : S34 => (x.f0, x.f1, x.f2, x.f3, x.f4))
theorem k34_open {w : World} {x : S34} {cs : List Value} (h : k34.K w x cs) : cs = [.int .i64 x.f0, .int .i64 x.f1, .int .i64 x.f2, .string x.f3, .string x.f4] := by
  obtain ⟨_, _, rfl, rfl, ⟨_, _, rfl, rfl, ⟨_, _, rfl, rfl, ⟨_, _, rfl, rfl, rfl⟩⟩⟩⟩ := h
  exact rfl
theorem k34_openM {w : World} {base : Nat} {ok : Nat → Prop} {x : S34} {cs : List Value} (h : k34.M w base ok x cs) : cs = [.int .i64 x.f0, .int .i64 x.f1, .int .i64 x.f2, .string x.f3, .string x.f4] := by
  obtain ⟨_, _, rfl, rfl, ⟨_, _, rfl, rfl, ⟨_, _, rfl, rfl, ⟨_, _, rfl, rfl, rfl⟩⟩⟩⟩ := h
  exact rfl
theorem k34_mk (w : World) (x : S34)  : k34.K w x [.int .i64 x.f0, .int .i64 x.f1, .int .i64 x.f2, .string x.f3, .string x.f4] := ⟨[.int .i64 x.f0], [.int .i64 x.f1, .int .i64 x.f2, .string x.f3, .string x.f4], rfl, rfl, ⟨[.int .i64 x.f1], [.int .i64 x.f2, .string x.f3, .string x.f4], rfl, rfl, ⟨[.int .i64 x.f2], [.string x.f3, .string x.f4], rfl, rfl, ⟨[.string x.f3], [.string x.f4], rfl, rfl, rfl⟩⟩⟩⟩
theorem k34_mkM (w : World) (base : Nat) (ok : Nat → Prop) (x : S34)  : k34.M w base ok x [.int .i64 x.f0, .int .i64 x.f1, .int .i64 x.f2, .string x.f3, .string x.f4] := ⟨[.int .i64 x.f0], [.int .i64 x.f1, .int .i64 x.f2, .string x.f3, .string x.f4], rfl, rfl, ⟨[.int .i64 x.f1], [.int .i64 x.f2, .string x.f3, .string x.f4], rfl, rfl, ⟨[.int .i64 x.f2], [.string x.f3, .string x.f4], rfl, rfl, ⟨[.string x.f3], [.string x.f4], rfl, rfl, rfl⟩⟩⟩⟩
def rd_T34 (xs : List S34) (i : Int) : S34 := xs.getD i.toNat z34
theorem at_T34 {w : World} {A : Option Addr} {n : Nat} {xs : List S34} (h : Kd.C k34 w A n xs) (i : Int) (h0 : 0 ≤ i) (h1 : i < n) : ∃ ad , A = some ad ∧ w.cell? (ad.add (i.toNat * 5)) = some (.int .i64 (rd_T34 xs i).f0) ∧ w.cell? ⟨(ad.add (i.toNat * 5)).block, (ad.add (i.toNat * 5)).off + 1, none⟩ = some (.int .i64 (rd_T34 xs i).f1) ∧ w.cell? ⟨(ad.add (i.toNat * 5)).block, (ad.add (i.toNat * 5)).off + 2, none⟩ = some (.int .i64 (rd_T34 xs i).f2) ∧ w.cell? ⟨(ad.add (i.toNat * 5)).block, (ad.add (i.toNat * 5)).off + 3, none⟩ = some (.string (rd_T34 xs i).f3) ∧ w.cell? ⟨(ad.add (i.toNat * 5)).block, (ad.add (i.toNat * 5)).off + 4, none⟩ = some (.string (rd_T34 xs i).f4) := by
  obtain ⟨ad, c, e, _, hK, hc0⟩ := Kd.C_get h z34 i h0 h1
  have hc : ∀ j u, c[j]? = some u → w.cell? (ad.add (i.toNat * 5 + j)) = some u := hc0
  obtain rfl := k34_open hK
  exact ⟨ad, e, hc 0 _ rfl, by rw [← add_field _ _ 1 (by omega)]; exact hc 1 _ rfl, by rw [← add_field _ _ 2 (by omega)]; exact hc 2 _ rfl, by rw [← add_field _ _ 3 (by omega)]; exact hc 3 _ rfl, by rw [← add_field _ _ 4 (by omega)]; exact hc 4 _ rfl⟩

/-! #### struct type 38 -/
structure S38 where
  f0 : ByteArray
  f1 : ByteArray
def z38 : S38 := ⟨(⟨#[]⟩ : ByteArray), (⟨#[]⟩ : ByteArray)⟩
def k38 : Kd S38 := Kd.iso (Kd.pair Kd.string Kd.string) (fun x : S38 => (x.f0, x.f1))
theorem k38_open {w : World} {x : S38} {cs : List Value} (h : k38.K w x cs) : cs = [.string x.f0, .string x.f1] := by
  obtain ⟨_, _, rfl, rfl, rfl⟩ := h
  exact rfl
theorem k38_openM {w : World} {base : Nat} {ok : Nat → Prop} {x : S38} {cs : List Value} (h : k38.M w base ok x cs) : cs = [.string x.f0, .string x.f1] := by
  obtain ⟨_, _, rfl, rfl, rfl⟩ := h
  exact rfl
theorem k38_mk (w : World) (x : S38)  : k38.K w x [.string x.f0, .string x.f1] := ⟨[.string x.f0], [.string x.f1], rfl, rfl, rfl⟩
theorem k38_mkM (w : World) (base : Nat) (ok : Nat → Prop) (x : S38)  : k38.M w base ok x [.string x.f0, .string x.f1] := ⟨[.string x.f0], [.string x.f1], rfl, rfl, rfl⟩
def rd_T38 (xs : List S38) (i : Int) : S38 := xs.getD i.toNat z38
theorem at_T38 {w : World} {A : Option Addr} {n : Nat} {xs : List S38} (h : Kd.C k38 w A n xs) (i : Int) (h0 : 0 ≤ i) (h1 : i < n) : ∃ ad , A = some ad ∧ w.cell? (ad.add (i.toNat * 2)) = some (.string (rd_T38 xs i).f0) ∧ w.cell? ⟨(ad.add (i.toNat * 2)).block, (ad.add (i.toNat * 2)).off + 1, none⟩ = some (.string (rd_T38 xs i).f1) := by
  obtain ⟨ad, c, e, _, hK, hc0⟩ := Kd.C_get h z38 i h0 h1
  have hc : ∀ j u, c[j]? = some u → w.cell? (ad.add (i.toNat * 2 + j)) = some u := hc0
  obtain rfl := k38_open hK
  exact ⟨ad, e, hc 0 _ rfl, by rw [← add_field _ _ 1 (by omega)]; exact hc 1 _ rfl⟩

/-! #### struct type 90 -/
structure S90 where
  f0 : ByteArray
  f1 : ByteArray
  f2 : Int
def z90 : S90 := ⟨(⟨#[]⟩ : ByteArray), (⟨#[]⟩ : ByteArray), (0 : Int)⟩
def k90 : Kd S90 := Kd.iso (Kd.pair Kd.string (Kd.pair Kd.string (Kd.int .i64))) (fun x : S90 => (x.f0, x.f1, x.f2))
theorem k90_open {w : World} {x : S90} {cs : List Value} (h : k90.K w x cs) : cs = [.string x.f0, .string x.f1, .int .i64 x.f2] := by
  obtain ⟨_, _, rfl, rfl, ⟨_, _, rfl, rfl, rfl⟩⟩ := h
  exact rfl
theorem k90_openM {w : World} {base : Nat} {ok : Nat → Prop} {x : S90} {cs : List Value} (h : k90.M w base ok x cs) : cs = [.string x.f0, .string x.f1, .int .i64 x.f2] := by
  obtain ⟨_, _, rfl, rfl, ⟨_, _, rfl, rfl, rfl⟩⟩ := h
  exact rfl
theorem k90_mk (w : World) (x : S90)  : k90.K w x [.string x.f0, .string x.f1, .int .i64 x.f2] := ⟨[.string x.f0], [.string x.f1, .int .i64 x.f2], rfl, rfl, ⟨[.string x.f1], [.int .i64 x.f2], rfl, rfl, rfl⟩⟩
theorem k90_mkM (w : World) (base : Nat) (ok : Nat → Prop) (x : S90)  : k90.M w base ok x [.string x.f0, .string x.f1, .int .i64 x.f2] := ⟨[.string x.f0], [.string x.f1, .int .i64 x.f2], rfl, rfl, ⟨[.string x.f1], [.int .i64 x.f2], rfl, rfl, rfl⟩⟩
def rd_T90 (xs : List S90) (i : Int) : S90 := xs.getD i.toNat z90
theorem at_T90 {w : World} {A : Option Addr} {n : Nat} {xs : List S90} (h : Kd.C k90 w A n xs) (i : Int) (h0 : 0 ≤ i) (h1 : i < n) : ∃ ad , A = some ad ∧ w.cell? (ad.add (i.toNat * 3)) = some (.string (rd_T90 xs i).f0) ∧ w.cell? ⟨(ad.add (i.toNat * 3)).block, (ad.add (i.toNat * 3)).off + 1, none⟩ = some (.string (rd_T90 xs i).f1) ∧ w.cell? ⟨(ad.add (i.toNat * 3)).block, (ad.add (i.toNat * 3)).off + 2, none⟩ = some (.int .i64 (rd_T90 xs i).f2) := by
  obtain ⟨ad, c, e, _, hK, hc0⟩ := Kd.C_get h z90 i h0 h1
  have hc : ∀ j u, c[j]? = some u → w.cell? (ad.add (i.toNat * 3 + j)) = some u := hc0
  obtain rfl := k90_open hK
  exact ⟨ad, e, hc 0 _ rfl, by rw [← add_field _ _ 1 (by omega)]; exact hc 1 _ rfl, by rw [← add_field _ _ 2 (by omega)]; exact hc 2 _ rfl⟩

end Go.Proofs.YtajiidkmijeidaaDoor.F
/- A tree of files, plain: rows of files in the order of their paths, and what changes make of them. -/
namespace Go.Proofs.YtajiidkmijeidaaDoor.Fr
open Go.RowKit Go.Proofs.YtajiidkmijeidaaDoor.F
set_option linter.unusedVariables false
set_option linter.unusedSimpArgs false
/-- A file: its path (f0), its text (f1), its time (f2). -/
abbrev Fl := S90
/-- A change: its kind (f0: 1 written, 2 appended, 3 removed, 4 renamed), path (f1), text (f2), time (f3). -/
structure Cg where
  f0 : Int
  f1 : ByteArray
  f2 : ByteArray
  f3 : Int
def ltB (a b : ByteArray) : Bool := bytesBefore a.data.toList b.data.toList
def dropF (l : List Fl) (p : ByteArray) : List Fl := l.filter fun f => !(f.f0.data.toList == p.data.toList)
def insF (f : Fl) : List Fl → List Fl
  | [] => [f]
  | g :: r => if ltB f.f0 g.f0 = true then f :: g :: r else g :: insF f r
def putF (l : List Fl) (f : Fl) : List Fl := insF f (dropF l f.f0)
def findF (l : List Fl) (p : ByteArray) : Option Fl := l.find? fun f => f.f0.data.toList == p.data.toList
def textF (l : List Fl) (p : ByteArray) : ByteArray := match findF l p with | some f => f.f1 | none => ⟨#[]⟩
/-- Files after a change. -/
def afterF (l : List Fl) (c : Cg) : List Fl :=
  if c.f0 = 1 then putF l ⟨c.f1, c.f2, c.f3⟩
  else if c.f0 = 2 then putF l ⟨c.f1, textF l c.f1 ++ c.f2, c.f3⟩
  else if c.f0 = 3 then dropF l c.f1
  else match findF l c.f1 with
    | none => l
    | some f => putF (dropF l c.f1) ⟨c.f2, f.f1, f.f2⟩
def usedF (l : List Fl) : Nat := (l.map fun f => f.f1.size).sum
/-- Is a one of the directories of b? -/
def wayF (a b : ByteArray) : Bool := (a.data.toList ++ [47]).isPrefixOf b.data.toList
/-- Is a path in the way of a file's (but's left out), or a file's of it? -/
def blockF (l : List Fl) (p : ByteArray) : Bool := l.any fun f => wayF f.f0 p || wayF p f.f0
/-! ### the map's datum -/
abbrev DW := DataW Unit
def fval (f : Fl) : DW := .agg [.lit (.string f.f1.data.toList), .lit (.int .i64 f.f2)]
def fent (f : Fl) : Lit × DW := (.string f.f0.data.toList, fval f)
def fdat (l : List Fl) : DW := .map (l.map fent)
theorem fdat_nil : fdat [] = .map [] := rfl
theorem fent_key (f : Fl) (p : List UInt8) : (fent f).1.sameKey (.string p) = (f.f0.data.toList == p) := rfl
theorem fent_before (f g : Fl) : (fent f).1.before (fent g).1 = ltB f.f0 g.f0 := rfl
theorem fdat_ins (f : Fl) (l : List Fl) : DataW.insert (fent f) (l.map fent) = (insF f l).map fent := by
  induction l with
  | nil => rfl
  | cons g r ih =>
    rw [List.map_cons, DataW.insert, fent_before, insF]
    by_cases h : ltB f.f0 g.f0 = true
    · rw [if_pos h, if_pos h]; rfl
    · rw [if_neg h, if_neg h, ih]; rfl
theorem fdat_filter (l : List Fl) (p : ByteArray) : (l.map fent).filter (fun x => !x.1.sameKey (.string p.data.toList)) = (dropF l p).map fent := by
  unfold dropF
  rw [List.filter_map]
  rfl
theorem fdat_put (l : List Fl) (f : Fl) : (fdat l).put (.string f.f0.data.toList) (fval f) = fdat (putF l f) := by
  show DataW.map (DataW.insert (fent f) ((l.map fent).filter _)) = DataW.map ((insF f (dropF l f.f0)).map fent)
  rw [fdat_filter, fdat_ins]
theorem fdat_del (l : List Fl) (p : ByteArray) : (fdat l).del (.string p.data.toList) = fdat (dropF l p) := by
  show DataW.map ((l.map fent).filter _) = DataW.map ((dropF l p).map fent)
  rw [fdat_filter]
theorem fdat_find (l : List Fl) (p : ByteArray) (z : DW) : (fdat l).atKey (.string p.data.toList) z = match findF l p with | some f => fval f | none => z := by
  unfold fdat DataW.atKey findF
  simp only [List.find?_map]
  have e : ((fun x : Lit × DW => x.1.sameKey (.string p.data.toList)) ∘ fent) = fun f : Fl => f.f0.data.toList == p.data.toList := rfl
  rw [e]
  cases l.find? fun f => f.f0.data.toList == p.data.toList <;> rfl
theorem fdat_has (l : List Fl) (p : ByteArray) : Maps.has (fdat l) (.string p.data.toList) = (findF l p).isSome := by
  show (l.map fent).any _ = _
  unfold findF
  rw [List.any_map]
  show l.any (fun f : Fl => f.f0.data.toList == p.data.toList) = _
  induction l with
  | nil => rfl
  | cons f r ih =>
    rw [List.any_cons, List.find?_cons]
    cases h : f.f0.data.toList == p.data.toList
    · rw [Bool.false_or]; exact ih
    · rfl
theorem fdat_size (l : List Fl) : Maps.size (fdat l) = l.length := by
  show (l.map fent).length = _
  rw [List.length_map]
theorem fdat_keys (l : List Fl) : strKeys (fdat l) = l.map fun f => f.f0.data.toList := by
  show (l.map fent).map _ = _
  rw [List.map_map]
  rfl
end Go.Proofs.YtajiidkmijeidaaDoor.Fr
/- The reference's way. -/
namespace Go.Proofs.YtajiidkmijeidaaDoor.Fr
open Go.RowKit Go.Proofs.YtajiidkmijeidaaDoor.F Go.Proofs.YtajiidkmijeidaaDoorW.PrintWords
set_option linter.unusedVariables false
set_option linter.unusedSimpArgs false
def wayR (a b : ByteArray) : Bool := decide (a.size < b.size) && (b.data.toList.take a.size == a.data.toList) && (b.data.toList[a.size]? == some 47)
def cooperageref5_way.f (a b : ByteArray) : Option Bool := some (wayR a b)
theorem wayR_true {a b : ByteArray} (h1 : a.size < b.size) (h2 : (b.extract 0 a.size).toList = a.toList) : wayR a b = ((b[a.size].toNat : Int) == 47) := by
  unfold wayR
  rw [ByteArray.toList_eq, ByteArray.toList_eq] at h2
  have h2' : b.data.toList.take a.size = a.data.toList := by
    rw [← h2]
    simp
  have hlt : a.size < b.data.toList.length := by simpa using h1
  rw [decide_eq_true h1, h2', List.getElem?_eq_getElem hlt, beq_self_eq_true, Bool.true_and, Bool.true_and]
  have hg : b.data.toList[a.size] = b[a.size] := by simp [ByteArray.getElem_eq_getElem_data]
  rw [hg, Bool.eq_iff_iff, beq_iff_eq, beq_iff_eq]
  constructor
  · intro h
    rw [Option.some.inj h]
    rfl
  · intro h
    exact congrArg some (UInt8.toNat_inj.1 (by show _ = 47; omega))
theorem wayR_false {a b : ByteArray} (h2 : ¬ (b.extract 0 a.size).toList = a.toList) : wayR a b = false := by
  unfold wayR
  rw [ByteArray.toList_eq, ByteArray.toList_eq] at h2
  have h2' : (b.data.toList.take a.size == a.data.toList) = false := by
    rw [beq_eq_false_iff_ne]
    intro h
    apply h2
    rw [← h]
    simp
  rw [h2']
  simp
set_option maxHeartbeats 800000 in
theorem way_walk (a b : ByteArray) (w : World) : Calls Tryd.prog 66 #[.string a, .string b] w fun e w' => e = .returned (.bool (wayR a b)) ∧ Drawn0 w w' := by
  by_cases h1 : a.size < b.size
  · have h1' : (a.size : Int) < (b.size : Int) := by omega
    have h2' : (a.size : Int) ≤ (b.size : Int) := by omega
    by_cases h2 : (b.extract 0 a.size).toList = a.toList
    · have h3 := Lib.hid (wayR_true h1 h2)
      have he : ((b.extract 0 a.size).toList == a.toList) = true := beq_iff_eq.2 h2
      clear h2
      go_enter Tryd.func66, Tryd.ntmps66
      go_wp2
      go_ret
      exact ⟨by rw [h3.out]; rfl, Drawn0.refl _⟩
    · have h3 := Lib.hid (wayR_false h2)
      have he : ((b.extract 0 a.size).toList == a.toList) = false := by simpa using h2
      clear h2
      go_enter Tryd.func66, Tryd.ntmps66
      go_wp2
      go_ret
      exact ⟨by rw [h3.out]; rfl, Drawn0.refl _⟩
  · have h3 : Hid (wayR a b = false) := by
      unfold wayR
      rw [Hid, decide_eq_false h1]
      rfl
    have h1' : ¬ (a.size : Int) < (b.size : Int) := by omega
    go_enter Tryd.func66, Tryd.ntmps66
    go_wp2
    go_ret
    exact ⟨by rw [h3.out]; rfl, Drawn0.refl _⟩
theorem cooperageref5_way.calls (a b : ByteArray) (r : Bool) (w : World) (h : cooperageref5_way.f a b = some r) :
    Calls Tryd.prog 66 #[.string a, .string b] w fun e w' => e = .returned (.bool r) ∧ Drawn0 w w' := by
  obtain rfl := Option.some.inj h
  exact way_walk a b w
end Go.Proofs.YtajiidkmijeidaaDoor.Fr
namespace Go.Proofs.YtajiidkmijeidaaDoor.F
open Go.Proofs.YtajiidkmijeidaaDoor.Fr
open Go.Proofs.YtajiidkmijeidaaDoor
open Go.RowKit Go.Proofs.YtajiidkmijeidaaDoorW.PrintWords Go.Proofs.YtajiidkmijeidaaDoorW.PrintLast Go.Proofs.YtajiidkmijeidaaDoorW.PrintMore
attribute [local go_sem] max2_int min2_int max_two min_two max_three min_three max_four min_four   -- for this text's walks alone
set_option linter.unusedVariables false
set_option linter.unusedSimpArgs false

theorem eqA38 (d : Nat) (w : World) (x0 y0 : ByteArray) (x1 y1 : ByteArray) :
    (Op.equalIn (d + 2) 38 (.agg #[.string x0, .string x1]) (.agg #[.string y0, .string y1])).run Tryd.prog w = .ok (x0.toList == y0.toList && (x1.toList == y1.toList)) w := by
  refine eqA_of Tryd.underlying38 (by kernel_rfl) ?_
  refine eqf_cons (by rfl) (by go_simp; rfl) (by go_simp; rfl) (by go_simp) ?_
  exact eqf_last (by rfl) (by go_simp; rfl) (by go_simp; rfl) (by go_simp)
end Go.Proofs.YtajiidkmijeidaaDoor.F
namespace Go.Proofs.YtajiidkmijeidaaDoor.F
open Go.Proofs.YtajiidkmijeidaaDoor.Fr
open Go.Proofs.YtajiidkmijeidaaDoor
open Go.RowKit Go.Proofs.YtajiidkmijeidaaDoorW.PrintWords Go.Proofs.YtajiidkmijeidaaDoorW.PrintLast Go.Proofs.YtajiidkmijeidaaDoorW.PrintMore
attribute [local go_sem] max2_int min2_int max_two min_two max_three min_three max_four min_four   -- for this text's walks alone
set_option linter.unusedVariables false
set_option linter.unusedSimpArgs false

/-! ### cooperagelaw5_pick: function 13 -/
def cooperagelaw5_pick.f (a0 : Int) (a1 : Int) : Option (Int) := if a0 < 0 then (if a1 = 0 then (none) else (some (Int.tmod (wrap64 (-(wrap64 (a0 + 1)))) a1))) else (if a1 = 0 then (none) else (some (Int.tmod a0 a1)))
set_option maxHeartbeats 8000000 in
set_option maxRecDepth 100000 in
theorem cooperagelaw5_pick.calls (a0 : Int) (a1 : Int) (r : Int) (w : World) (h : cooperagelaw5_pick.f a0 a1 = some r) :
    Calls Tryd.prog 13 #[.int .i64 a0, .int .i64 a1] w fun e w' => e = .returned (.int .i64 r) ∧ Drawn0 w w' := by
  have H : (if a0 < 0 then (if a1 = 0 then (none) else (some (Int.tmod (wrap64 (-(wrap64 (a0 + 1)))) a1))) else (if a1 = 0 then (none) else (some (Int.tmod a0 a1)))) = some r := h
  clear h
  by_cases c3 : a0 < 0
  · rw [if_pos c3] at H
    have c3b0 : decide (a0 < 0) = true := decide_eq_true c3
    clear c3
    by_cases c4 : a1 = 0
    · rw [if_pos c4] at H
      exact absurd H (by simp)
    · rw [if_neg c4] at H
      have c4b0 : (a1 == 0) = false := beq_eq_false_iff_ne.mpr c4
      have c4b1 : (a1 != 0) = true := bne_iff_ne.mpr c4
      obtain rfl := Option.some.inj H
      go_enter Tryd.func13, Tryd.ntmps13
      go_wp2
      go_ret
      exact ⟨by first | rfl | (simp; done) | (simp [*]; done), by repeat (first | exact Drawn0.refl _ | apply Drawn0.step)⟩
  · rw [if_neg c3] at H
    have c3b0 : decide (a0 < 0) = false := decide_eq_false c3
    clear c3
    by_cases c5 : a1 = 0
    · rw [if_pos c5] at H
      exact absurd H (by simp)
    · rw [if_neg c5] at H
      have c5b0 : (a1 == 0) = false := beq_eq_false_iff_ne.mpr c5
      have c5b1 : (a1 != 0) = true := bne_iff_ne.mpr c5
      obtain rfl := Option.some.inj H
      go_enter Tryd.func13, Tryd.ntmps13
      go_wp2
      go_ret
      exact ⟨by first | rfl | (simp; done) | (simp [*]; done), by repeat (first | exact Drawn0.refl _ | apply Drawn0.step)⟩

/-! ### cooperagelaw5_small: function 12 -/
def cooperagelaw5_small.l0 : Nat → List (S34) → Int → Option (Bool)
  | 0, _, _ => none
  | k + 1, x0, x3 => if x3 < (x0.length : Int) then (if 0 ≤ x3 then (if (((rd_T34 x0 x3).f3).size : Int) > 150 then (some false) else (if (((rd_T34 x0 x3).f4).size : Int) > 300 then (some false) else (cooperagelaw5_small.l0 k x0 (wrap64 (x3 + 1))))) else (none)) else (some true)
def cooperagelaw5_small.f (k : Nat) (l0 : List (S34)) : Option (Bool) := if (l0.length : Int) > 60 then (some false) else (cooperagelaw5_small.l0 k l0 0)
theorem cooperagelaw5_small.mono_l : ∀ k, (∀ y0 y1, LeO (cooperagelaw5_small.l0 k y0 y1) (cooperagelaw5_small.l0 (k + 1) y0 y1))
  | 0 => fun _ _ r h => by simp [cooperagelaw5_small.l0] at h
  | k + 1 => by
    have ih0 := cooperagelaw5_small.mono_l k
    · intro y0 y1
      unfold cooperagelaw5_small.l0
      repeat' first
      | (with_reducible exact ih0 _ _)
      | (with_reducible exact LeO.refl _)
      | (with_reducible exact LeO.none _)
      | (with_reducible refine LeO.ite ?_ ?_)
      | (with_reducible refine LeO.bind ?_ (fun _ => ?_))
      | exact ih0 _ _
      | exact LeO.none _
      | refine LeO.ite ?_ ?_
      | refine LeO.bind ?_ (fun _ => ?_)
theorem cooperagelaw5_small.mono : ∀ a0 k, LeO (cooperagelaw5_small.f k a0) (cooperagelaw5_small.f (k + 1) a0) := by
  intro a0 k
  have ih0 := cooperagelaw5_small.mono_l k
  unfold cooperagelaw5_small.f
  repeat' first
      | (with_reducible exact ih0 _ _)
      | (with_reducible exact LeO.refl _)
      | (with_reducible exact LeO.none _)
      | (with_reducible refine LeO.ite ?_ ?_)
      | (with_reducible refine LeO.bind ?_ (fun _ => ?_))
      | exact ih0 _ _
      | exact LeO.none _
      | refine LeO.ite ?_ ?_
      | refine LeO.bind ?_ (fun _ => ?_)
set_option maxHeartbeats 8000000 in
set_option maxRecDepth 100000 in
theorem cooperagelaw5_small.calls (k : Nat) (A0 : Option Addr) (c0 : Nat) (l0 : List (S34)) (r : Bool) (w : World) (hr0 : Kd.C k34 w A0 l0.length l0) (hc0 : l0.length ≤ c0) (h : cooperagelaw5_small.f k l0 = some r) :
    Calls Tryd.prog 12 #[.slice A0 l0.length c0] w fun e w' => e = .returned (.bool r) ∧ Drawn0 w w' := by
  have HR0 := Aside0.mk hr0
  have HC0 := Aside0.mk hc0
  clear hr0 hc0
  have H : (if (l0.length : Int) > 60 then (some false) else (cooperagelaw5_small.l0 k l0 0)) = some r := h
  clear h
  by_cases c2 : (l0.length : Int) > 60
  · rw [if_pos c2] at H
    have c2b0 : decide (60 < (l0.length : Int)) = true := decide_eq_true c2
    have c2b1 : decide (60 < l0.length) = true := decide_eq_true (by omega)
    clear c2
    obtain rfl := Option.some.inj H
    go_enter Tryd.func12, Tryd.ntmps12
    go_wp2
    go_ret
    exact ⟨by first | rfl | (simp; done) | (simp [*]; done), by repeat (first | exact Drawn0.refl _ | apply Drawn0.step)⟩
  · rw [if_neg c2] at H
    have c2b0 : decide (60 < (l0.length : Int)) = false := decide_eq_false c2
    have c2b1 : decide (60 < l0.length) = false := decide_eq_false (by omega)
    clear c2
    have H' := Aside0.mk H
    clear H
    go_enter Tryd.func12, Tryd.ntmps12
    go_wp2
    go_loopg [3] k (fun kq v3 w' => ∃ (x3_1 : Int), v3 = .int .i64 x3_1 ∧ Aside0 (cooperagelaw5_small.l0 kq l0 x3_1 = some r) ∧ Aside0 (kq ≤ k) ∧ Drawn0 w w')
    case atStart => exact ⟨(0), (by first | rfl | (simp; done) | (simp [*]; done)), H', ⟨Nat.le_refl _⟩, by repeat (first | exact Drawn0.refl _ | apply Drawn0.step)⟩
    case round =>
      clear H'
      try clear c1
      try clear c2
      try clear c2b0
      try clear c2b1
      try clear p2
      obtain ⟨x3_1, rfl, HA, HK1, ⟨m1, rfl⟩⟩ := hrel
      cases gk with
      | zero => exact absurd HA.out (by simp [cooperagelaw5_small.l0])
      | succ k1 =>
        have H := HA.out
        clear HA
        simp only [cooperagelaw5_small.l0] at H
        by_cases c3 : x3_1 < (l0.length : Int)
        · rw [if_pos c3] at H
          have c3b0 : decide (x3_1 < (l0.length : Int)) = true := decide_eq_true c3
          clear c3
          by_cases c4 : 0 ≤ x3_1
          · rw [if_pos c4] at H
            have c4b0 : decide (0 ≤ x3_1) = true := decide_eq_true c4
            clear c4
            by_cases c5 : (((rd_T34 l0 x3_1).f3).size : Int) > 150
            · rw [if_pos c5] at H
              have c5b0 : decide (150 < (((rd_T34 l0 x3_1).f3).size : Int)) = true := decide_eq_true c5
              have c5b1 : decide (150 < ((rd_T34 l0 x3_1).f3).size) = true := decide_eq_true (by omega)
              clear c5
              obtain rfl := Option.some.inj H
              have p101 : 0 ≤ (x3_1 : Int) := of_decide_eq_true (by first | (with_reducible assumption) | assumption)
              have q101 : x3_1 < (l0.length : Int) := of_decide_eq_true (by first | (with_reducible assumption) | assumption)
              obtain ⟨ad101, e101, hx101_0, hx101_1, hx101_2, hx101_3, hx101_4⟩ := at_T34 HR0.out x3_1 p101 q101
              cases e101
              replace p101 := eq_true p101
              replace q101 := eq_true q101
              go_wp2
              go_ret
              exact ⟨by first | rfl | (simp; done) | (simp [*]; done), by repeat (first | exact Drawn0.refl _ | apply Drawn0.step)⟩
            · rw [if_neg c5] at H
              have c5b0 : decide (150 < (((rd_T34 l0 x3_1).f3).size : Int)) = false := decide_eq_false c5
              have c5b1 : decide (150 < ((rd_T34 l0 x3_1).f3).size) = false := decide_eq_false (by omega)
              clear c5
              by_cases c6 : (((rd_T34 l0 x3_1).f4).size : Int) > 300
              · rw [if_pos c6] at H
                have c6b0 : decide (300 < (((rd_T34 l0 x3_1).f4).size : Int)) = true := decide_eq_true c6
                have c6b1 : decide (300 < ((rd_T34 l0 x3_1).f4).size) = true := decide_eq_true (by omega)
                clear c6
                obtain rfl := Option.some.inj H
                have p101 : 0 ≤ (x3_1 : Int) := of_decide_eq_true (by first | (with_reducible assumption) | assumption)
                have q101 : x3_1 < (l0.length : Int) := of_decide_eq_true (by first | (with_reducible assumption) | assumption)
                obtain ⟨ad101, e101, hx101_0, hx101_1, hx101_2, hx101_3, hx101_4⟩ := at_T34 HR0.out x3_1 p101 q101
                cases e101
                replace p101 := eq_true p101
                replace q101 := eq_true q101
                have p102 : 0 ≤ (x3_1 : Int) := of_decide_eq_true (by first | (with_reducible assumption) | assumption)
                have q102 : x3_1 < (l0.length : Int) := of_decide_eq_true (by first | (with_reducible assumption) | assumption)
                obtain ⟨ad102, e102, hx102_0, hx102_1, hx102_2, hx102_3, hx102_4⟩ := at_T34 HR0.out x3_1 p102 q102
                obtain rfl : ad101 = ad102 := (by injection e102)
                replace p102 := eq_true p102
                replace q102 := eq_true q102
                go_wp2
                go_ret
                exact ⟨by first | rfl | (simp; done) | (simp [*]; done), by repeat (first | exact Drawn0.refl _ | apply Drawn0.step)⟩
              · rw [if_neg c6] at H
                have c6b0 : decide (300 < (((rd_T34 l0 x3_1).f4).size : Int)) = false := decide_eq_false c6
                have c6b1 : decide (300 < ((rd_T34 l0 x3_1).f4).size) = false := decide_eq_false (by omega)
                clear c6
                have H' := Aside0.mk H
                clear H
                have p101 : 0 ≤ (x3_1 : Int) := of_decide_eq_true (by first | (with_reducible assumption) | assumption)
                have q101 : x3_1 < (l0.length : Int) := of_decide_eq_true (by first | (with_reducible assumption) | assumption)
                obtain ⟨ad101, e101, hx101_0, hx101_1, hx101_2, hx101_3, hx101_4⟩ := at_T34 HR0.out x3_1 p101 q101
                cases e101
                replace p101 := eq_true p101
                replace q101 := eq_true q101
                have p102 : 0 ≤ (x3_1 : Int) := of_decide_eq_true (by first | (with_reducible assumption) | assumption)
                have q102 : x3_1 < (l0.length : Int) := of_decide_eq_true (by first | (with_reducible assumption) | assumption)
                obtain ⟨ad102, e102, hx102_0, hx102_1, hx102_2, hx102_3, hx102_4⟩ := at_T34 HR0.out x3_1 p102 q102
                obtain rfl : ad101 = ad102 := (by injection e102)
                replace p102 := eq_true p102
                replace q102 := eq_true q102
                go_wp2
                go_roundg k1
                case measure => have := HK1.out; omega
                case rel => exact ⟨(wrap64 (x3_1 + 1)), (by first | rfl | (simp; done) | (simp [*]; done)), H', ⟨by have := HK1.out; omega⟩, by repeat (first | exact Drawn0.refl _ | apply Drawn0.step)⟩
          · rw [if_neg c4] at H
            exact absurd H (by simp)
        · rw [if_neg c3] at H
          have c3b0 : decide (x3_1 < (l0.length : Int)) = false := decide_eq_false c3
          clear c3
          obtain rfl := Option.some.inj H
          go_wp2
          go_ret
          exact ⟨by first | rfl | (simp; done) | (simp [*]; done), by repeat (first | exact Drawn0.refl _ | apply Drawn0.step)⟩

end Go.Proofs.YtajiidkmijeidaaDoor.F
namespace Go.Proofs.YtajiidkmijeidaaDoor.F
open Go.Proofs.YtajiidkmijeidaaDoor.Fr
open Go.Proofs.YtajiidkmijeidaaDoor
open Go.RowKit Go.Proofs.YtajiidkmijeidaaDoorW.PrintWords Go.Proofs.YtajiidkmijeidaaDoorW.PrintLast Go.Proofs.YtajiidkmijeidaaDoorW.PrintMore
attribute [local go_sem] max2_int min2_int max_two min_two max_three min_three max_four min_four   -- for this text's walks alone
set_option linter.unusedVariables false
set_option linter.unusedSimpArgs false

attribute [local go_sem high] eqA38
/-! ### cooperagelaw5_same: function 22 -/
def cooperagelaw5_same.l0 : Nat → List (S38) → List (S38) → Int → Option (Bool)
  | 0, _, _, _ => none
  | k + 1, x0, x1, x5 => if x5 < (x0.length : Int) then (if 0 ≤ x5 then (if x5 < (x1.length : Int) then (if (!((((rd_T38 x0 x5).f0).toList) == (((rd_T38 x1 x5).f0).toList)) || (!((((rd_T38 x0 x5).f1).toList) == (((rd_T38 x1 x5).f1).toList)))) = true then (some false) else (cooperagelaw5_same.l0 k x0 x1 (wrap64 (x5 + 1)))) else (none)) else (none)) else (some true)
def cooperagelaw5_same.f (k : Nat) (l0 : List (S38)) (l1 : List (S38)) : Option (Bool) := if (l0.length : Int) = (l1.length : Int) then (cooperagelaw5_same.l0 k l0 l1 0) else (some false)
theorem cooperagelaw5_same.mono_l : ∀ k, (∀ y0 y1 y2, LeO (cooperagelaw5_same.l0 k y0 y1 y2) (cooperagelaw5_same.l0 (k + 1) y0 y1 y2))
  | 0 => fun _ _ _ r h => by simp [cooperagelaw5_same.l0] at h
  | k + 1 => by
    have ih0 := cooperagelaw5_same.mono_l k
    · intro y0 y1 y2
      unfold cooperagelaw5_same.l0
      repeat' first
      | (with_reducible exact ih0 _ _ _)
      | (with_reducible exact LeO.refl _)
      | (with_reducible exact LeO.none _)
      | (with_reducible refine LeO.ite ?_ ?_)
      | (with_reducible refine LeO.bind ?_ (fun _ => ?_))
      | exact ih0 _ _ _
      | exact LeO.none _
      | refine LeO.ite ?_ ?_
      | refine LeO.bind ?_ (fun _ => ?_)
theorem cooperagelaw5_same.mono : ∀ a0 a1 k, LeO (cooperagelaw5_same.f k a0 a1) (cooperagelaw5_same.f (k + 1) a0 a1) := by
  intro a0 a1 k
  have ih0 := cooperagelaw5_same.mono_l k
  unfold cooperagelaw5_same.f
  repeat' first
      | (with_reducible exact ih0 _ _ _)
      | (with_reducible exact LeO.refl _)
      | (with_reducible exact LeO.none _)
      | (with_reducible refine LeO.ite ?_ ?_)
      | (with_reducible refine LeO.bind ?_ (fun _ => ?_))
      | exact ih0 _ _ _
      | exact LeO.none _
      | refine LeO.ite ?_ ?_
      | refine LeO.bind ?_ (fun _ => ?_)
set_option maxHeartbeats 8000000 in
set_option maxRecDepth 100000 in
theorem cooperagelaw5_same.calls (k : Nat) (A0 : Option Addr) (c0 : Nat) (l0 : List (S38)) (A1 : Option Addr) (c1 : Nat) (l1 : List (S38)) (r : Bool) (w : World) (hr0 : Kd.C k38 w A0 l0.length l0) (hc0 : l0.length ≤ c0) (hr1 : Kd.C k38 w A1 l1.length l1) (hc1 : l1.length ≤ c1) (h : cooperagelaw5_same.f k l0 l1 = some r) :
    Calls Tryd.prog 22 #[.slice A0 l0.length c0, .slice A1 l1.length c1] w fun e w' => e = .returned (.bool r) ∧ Drawn0 w w' := by
  have hu38 := Tryd.underlying38
  have HR0 := Aside0.mk hr0
  have HC0 := Aside0.mk hc0
  clear hr0 hc0
  have HR1 := Aside0.mk hr1
  have HC1 := Aside0.mk hc1
  clear hr1 hc1
  have H : (if (l0.length : Int) = (l1.length : Int) then (cooperagelaw5_same.l0 k l0 l1 0) else (some false)) = some r := h
  clear h
  by_cases c3 : (l0.length : Int) = (l1.length : Int)
  · rw [if_pos c3] at H
    have c3b0 : ((l0.length : Int) == (l1.length : Int)) = true := beq_iff_eq.mpr c3
    have c3b1 : ((l0.length : Int) != (l1.length : Int)) = false := bne_eq_false_iff_eq.mpr c3
    have c3b2 : (l0.length == l1.length) = true := by first | simpa using c3 | (simp at c3 ⊢; omega)
    clear c3
    have H' := Aside0.mk H
    clear H
    go_enter Tryd.func22, Tryd.ntmps22
    go_wp2
    repeat (go_quiet (fail); try go_wp2)
    go_loopg [5] k (fun kq v5 w' => ∃ (x5_1 : Int), v5 = .int .i64 x5_1 ∧ Aside0 (cooperagelaw5_same.l0 kq l0 l1 x5_1 = some r) ∧ Aside0 (kq ≤ k) ∧ Drawn0 w w')
    case atStart => exact ⟨(0), (by first | rfl | (simp; done) | (simp [*]; done)), H', ⟨Nat.le_refl _⟩, by repeat (first | exact Drawn0.refl _ | apply Drawn0.step)⟩
    case round =>
      clear H'
      try clear c1
      try clear c2
      try clear p2
      try clear c3
      try clear c3b0
      try clear c3b1
      try clear c3b2
      obtain ⟨x5_1, rfl, HA, HK1, ⟨m1, rfl⟩⟩ := hrel
      cases gk with
      | zero => exact absurd HA.out (by simp [cooperagelaw5_same.l0])
      | succ k1 =>
        have H := HA.out
        clear HA
        simp only [cooperagelaw5_same.l0] at H
        by_cases c4 : x5_1 < (l0.length : Int)
        · rw [if_pos c4] at H
          have c4b0 : decide (x5_1 < (l0.length : Int)) = true := decide_eq_true c4
          clear c4
          by_cases c5 : 0 ≤ x5_1
          · rw [if_pos c5] at H
            have c5b0 : decide (0 ≤ x5_1) = true := decide_eq_true c5
            clear c5
            by_cases c6 : x5_1 < (l1.length : Int)
            · rw [if_pos c6] at H
              have c6b0 : decide (x5_1 < (l1.length : Int)) = true := decide_eq_true c6
              clear c6
              by_cases c7 : (!((((rd_T38 l0 x5_1).f0).toList) == (((rd_T38 l1 x5_1).f0).toList)) || (!((((rd_T38 l0 x5_1).f1).toList) == (((rd_T38 l1 x5_1).f1).toList)))) = true
              · rw [if_pos c7] at H
                have c7b0 : (!((((rd_T38 l0 x5_1).f0).toList) == (((rd_T38 l1 x5_1).f0).toList)) || (!((((rd_T38 l0 x5_1).f1).toList) == (((rd_T38 l1 x5_1).f1).toList)))) = true := c7
                clear c7
                obtain rfl := Option.some.inj H
                have p103 : 0 ≤ (x5_1 : Int) := of_decide_eq_true (by first | (with_reducible assumption) | assumption)
                have q103 : x5_1 < (l0.length : Int) := of_decide_eq_true (by first | (with_reducible assumption) | assumption)
                obtain ⟨ad103, e103, hx103_0, hx103_1⟩ := at_T38 HR0.out x5_1 p103 q103
                cases e103
                replace p103 := eq_true p103
                replace q103 := eq_true q103
                have p104 : 0 ≤ (x5_1 : Int) := of_decide_eq_true (by first | (with_reducible assumption) | assumption)
                have q104 : x5_1 < (l1.length : Int) := of_decide_eq_true (by first | (with_reducible assumption) | assumption)
                obtain ⟨ad104, e104, hx104_0, hx104_1⟩ := at_T38 HR1.out x5_1 p104 q104
                cases e104
                replace p104 := eq_true p104
                replace q104 := eq_true q104
                go_wp2
                repeat (go_quiet (fail); try go_wp2)
                go_ret
                exact ⟨by first | rfl | (simp; done) | (simp [*]; done), by repeat (first | exact Drawn0.refl _ | apply Drawn0.step)⟩
              · rw [if_neg c7] at H
                have c7b0 : (!((((rd_T38 l0 x5_1).f0).toList) == (((rd_T38 l1 x5_1).f0).toList)) || (!((((rd_T38 l0 x5_1).f1).toList) == (((rd_T38 l1 x5_1).f1).toList)))) = false := by simpa using c7
                clear c7
                have H' := Aside0.mk H
                clear H
                have p103 : 0 ≤ (x5_1 : Int) := of_decide_eq_true (by first | (with_reducible assumption) | assumption)
                have q103 : x5_1 < (l0.length : Int) := of_decide_eq_true (by first | (with_reducible assumption) | assumption)
                obtain ⟨ad103, e103, hx103_0, hx103_1⟩ := at_T38 HR0.out x5_1 p103 q103
                cases e103
                replace p103 := eq_true p103
                replace q103 := eq_true q103
                have p104 : 0 ≤ (x5_1 : Int) := of_decide_eq_true (by first | (with_reducible assumption) | assumption)
                have q104 : x5_1 < (l1.length : Int) := of_decide_eq_true (by first | (with_reducible assumption) | assumption)
                obtain ⟨ad104, e104, hx104_0, hx104_1⟩ := at_T38 HR1.out x5_1 p104 q104
                cases e104
                replace p104 := eq_true p104
                replace q104 := eq_true q104
                go_wp2
                repeat (go_quiet (fail); try go_wp2)
                go_roundg k1
                case measure => have := HK1.out; omega
                case rel => exact ⟨(wrap64 (x5_1 + 1)), (by first | rfl | (simp; done) | (simp [*]; done)), H', ⟨by have := HK1.out; omega⟩, by repeat (first | exact Drawn0.refl _ | apply Drawn0.step)⟩
            · rw [if_neg c6] at H
              exact absurd H (by simp)
          · rw [if_neg c5] at H
            exact absurd H (by simp)
        · rw [if_neg c4] at H
          have c4b0 : decide (x5_1 < (l0.length : Int)) = false := decide_eq_false c4
          clear c4
          obtain rfl := Option.some.inj H
          go_wp2
          repeat (go_quiet (fail); try go_wp2)
          go_ret
          exact ⟨by first | rfl | (simp; done) | (simp [*]; done), by repeat (first | exact Drawn0.refl _ | apply Drawn0.step)⟩
  · rw [if_neg c3] at H
    have c3b0 : ((l0.length : Int) == (l1.length : Int)) = false := beq_eq_false_iff_ne.mpr c3
    have c3b1 : ((l0.length : Int) != (l1.length : Int)) = true := bne_iff_ne.mpr c3
    have c3b2 : (l0.length == l1.length) = false := by first | simpa using c3 | (simp at c3 ⊢; omega)
    obtain rfl := Option.some.inj H
    go_enter Tryd.func22, Tryd.ntmps22
    go_wp2
    repeat (go_quiet (fail); try go_wp2)
    go_ret
    exact ⟨by first | rfl | (simp; done) | (simp [*]; done), by repeat (first | exact Drawn0.refl _ | apply Drawn0.step)⟩

/-! ### cooperageref1_digit: function 73 -/
def cooperageref1_digit.f (a0 : Int) : Option (Bool) := if a0 ≥ 48 then (some (decide (a0 ≤ 57))) else (some false)
set_option maxHeartbeats 8000000 in
set_option maxRecDepth 100000 in
theorem cooperageref1_digit.calls (a0 : Int) (r : Bool) (w : World) (h : cooperageref1_digit.f a0 = some r) :
    Calls Tryd.prog 73 #[.int .u8 a0] w fun e w' => e = .returned (.bool r) ∧ Drawn0 w w' := by
  have H : (if a0 ≥ 48 then (some (decide (a0 ≤ 57))) else (some false)) = some r := h
  clear h
  by_cases c2 : a0 ≥ 48
  · rw [if_pos c2] at H
    have c2b0 : decide (48 ≤ a0) = true := decide_eq_true c2
    clear c2
    obtain rfl := Option.some.inj H
    go_enter Tryd.func73, Tryd.ntmps73
    go_wp2
    go_ret
    exact ⟨by first | rfl | (simp; done) | (simp [*]; done), by repeat (first | exact Drawn0.refl _ | apply Drawn0.step)⟩
  · rw [if_neg c2] at H
    have c2b0 : decide (48 ≤ a0) = false := decide_eq_false c2
    clear c2
    obtain rfl := Option.some.inj H
    go_enter Tryd.func73, Tryd.ntmps73
    go_wp2
    go_ret
    exact ⟨by first | rfl | (simp; done) | (simp [*]; done), by repeat (first | exact Drawn0.refl _ | apply Drawn0.step)⟩

end Go.Proofs.YtajiidkmijeidaaDoor.F
namespace Go.Proofs.YtajiidkmijeidaaDoor.F
open Go.Proofs.YtajiidkmijeidaaDoor.Fr
open Go.Proofs.YtajiidkmijeidaaDoor
open Go.RowKit Go.Proofs.YtajiidkmijeidaaDoorW.PrintWords Go.Proofs.YtajiidkmijeidaaDoorW.PrintLast Go.Proofs.YtajiidkmijeidaaDoorW.PrintMore
attribute [local go_sem] max2_int min2_int max_two min_two max_three min_three max_four min_four   -- for this text's walks alone
set_option linter.unusedVariables false
set_option linter.unusedSimpArgs false

/-! ### cooperageref1_plain: function 65 -/
def cooperageref1_plain.f (a0 : Int) : Option (Bool) := if a0 ≥ 65 then (if a0 ≤ 90 then (some true) else (if a0 ≥ 97 then (if a0 ≤ 122 then (some true) else ((cooperageref1_digit.f a0).bind fun t105 => (if t105 = true then (some true) else (if a0 = 95 then (some true) else (if a0 = 45 then (some true) else (if a0 = 46 then (some true) else (if a0 = 47 then (some true) else (some (a0 == 43))))))))) else ((cooperageref1_digit.f a0).bind fun t106 => (if t106 = true then (some true) else (if a0 = 95 then (some true) else (if a0 = 45 then (some true) else (if a0 = 46 then (some true) else (if a0 = 47 then (some true) else (some (a0 == 43)))))))))) else (if a0 ≥ 97 then (if a0 ≤ 122 then (some true) else ((cooperageref1_digit.f a0).bind fun t107 => (if t107 = true then (some true) else (if a0 = 95 then (some true) else (if a0 = 45 then (some true) else (if a0 = 46 then (some true) else (if a0 = 47 then (some true) else (some (a0 == 43))))))))) else ((cooperageref1_digit.f a0).bind fun t108 => (if t108 = true then (some true) else (if a0 = 95 then (some true) else (if a0 = 45 then (some true) else (if a0 = 46 then (some true) else (if a0 = 47 then (some true) else (some (a0 == 43)))))))))
set_option maxHeartbeats 8000000 in
set_option maxRecDepth 100000 in
theorem cooperageref1_plain.calls (a0 : Int) (r : Bool) (w : World) (h : cooperageref1_plain.f a0 = some r) :
    Calls Tryd.prog 65 #[.int .u8 a0] w fun e w' => e = .returned (.bool r) ∧ Drawn0 w w' := by
  have H : (if a0 ≥ 65 then (if a0 ≤ 90 then (some true) else (if a0 ≥ 97 then (if a0 ≤ 122 then (some true) else ((cooperageref1_digit.f a0).bind fun t105 => (if t105 = true then (some true) else (if a0 = 95 then (some true) else (if a0 = 45 then (some true) else (if a0 = 46 then (some true) else (if a0 = 47 then (some true) else (some (a0 == 43))))))))) else ((cooperageref1_digit.f a0).bind fun t106 => (if t106 = true then (some true) else (if a0 = 95 then (some true) else (if a0 = 45 then (some true) else (if a0 = 46 then (some true) else (if a0 = 47 then (some true) else (some (a0 == 43)))))))))) else (if a0 ≥ 97 then (if a0 ≤ 122 then (some true) else ((cooperageref1_digit.f a0).bind fun t107 => (if t107 = true then (some true) else (if a0 = 95 then (some true) else (if a0 = 45 then (some true) else (if a0 = 46 then (some true) else (if a0 = 47 then (some true) else (some (a0 == 43))))))))) else ((cooperageref1_digit.f a0).bind fun t108 => (if t108 = true then (some true) else (if a0 = 95 then (some true) else (if a0 = 45 then (some true) else (if a0 = 46 then (some true) else (if a0 = 47 then (some true) else (some (a0 == 43)))))))))) = some r := h
  clear h
  by_cases c2 : a0 ≥ 65
  · rw [if_pos c2] at H
    have c2b0 : decide (65 ≤ a0) = true := decide_eq_true c2
    clear c2
    by_cases c3 : a0 ≤ 90
    · rw [if_pos c3] at H
      have c3b0 : decide (a0 ≤ 90) = true := decide_eq_true c3
      clear c3
      obtain rfl := Option.some.inj H
      go_enter Tryd.func65, Tryd.ntmps65
      go_wp2
      go_ret
      exact ⟨by first | rfl | (simp; done) | (simp [*]; done), by repeat (first | exact Drawn0.refl _ | apply Drawn0.step)⟩
    · rw [if_neg c3] at H
      have c3b0 : decide (a0 ≤ 90) = false := decide_eq_false c3
      clear c3
      by_cases c4 : a0 ≥ 97
      · rw [if_pos c4] at H
        have c4b0 : decide (97 ≤ a0) = true := decide_eq_true c4
        clear c4
        by_cases c5 : a0 ≤ 122
        · rw [if_pos c5] at H
          have c5b0 : decide (a0 ≤ 122) = true := decide_eq_true c5
          clear c5
          obtain rfl := Option.some.inj H
          go_enter Tryd.func65, Tryd.ntmps65
          go_wp2
          go_ret
          exact ⟨by first | rfl | (simp; done) | (simp [*]; done), by repeat (first | exact Drawn0.refl _ | apply Drawn0.step)⟩
        · rw [if_neg c5] at H
          have c5b0 : decide (a0 ≤ 122) = false := decide_eq_false c5
          clear c5
          replace H := Option.bind_eq_some_iff.mp H
          obtain ⟨t105, A60, H⟩ := H
          replace H : (if t105 = true then (some true) else (if a0 = 95 then (some true) else (if a0 = 45 then (some true) else (if a0 = 46 then (some true) else (if a0 = 47 then (some true) else (some (a0 == 43))))))) = some r := H
          have A6 := Aside0.mk A60
          clear A60
          by_cases c7 : t105 = true
          · subst c7
            have H1 : (some true) = some r := by rw [if_pos rfl] at H; exact H
            clear H
            have H := H1
            clear H1
            obtain rfl := Option.some.inj H
            go_enter Tryd.func65, Tryd.ntmps65
            go_wp2_with (first | (go_at_call 73; (with_reducible refine (cooperageref1_digit.calls a0 true _ A6.out).mono ?_); rintro e w' ⟨rfl, ⟨nd, rfl⟩⟩))
            go_ret
            exact ⟨by first | rfl | (simp; done) | (simp [*]; done), by repeat (first | exact Drawn0.refl _ | apply Drawn0.step)⟩
          · replace c7 := Bool.eq_false_iff.mpr c7
            subst c7
            have H1 : (if a0 = 95 then (some true) else (if a0 = 45 then (some true) else (if a0 = 46 then (some true) else (if a0 = 47 then (some true) else (some (a0 == 43)))))) = some r := by rw [if_neg (show ¬ (false = true) by decide)] at H; exact H
            clear H
            have H := H1
            clear H1
            by_cases c8 : a0 = 95
            · rw [if_pos c8] at H
              have c8b0 : (a0 == 95) = true := beq_iff_eq.mpr c8
              have c8b1 : (a0 != 95) = false := bne_eq_false_iff_eq.mpr c8
              clear c8
              obtain rfl := Option.some.inj H
              go_enter Tryd.func65, Tryd.ntmps65
              go_wp2_with (first | (go_at_call 73; (with_reducible refine (cooperageref1_digit.calls a0 false _ A6.out).mono ?_); rintro e w' ⟨rfl, ⟨nd, rfl⟩⟩))
              go_ret
              exact ⟨by first | rfl | (simp; done) | (simp [*]; done), by repeat (first | exact Drawn0.refl _ | apply Drawn0.step)⟩
            · rw [if_neg c8] at H
              have c8b0 : (a0 == 95) = false := beq_eq_false_iff_ne.mpr c8
              have c8b1 : (a0 != 95) = true := bne_iff_ne.mpr c8
              by_cases c9 : a0 = 45
              · rw [if_pos c9] at H
                have c9b0 : (a0 == 45) = true := beq_iff_eq.mpr c9
                have c9b1 : (a0 != 45) = false := bne_eq_false_iff_eq.mpr c9
                clear c9
                obtain rfl := Option.some.inj H
                go_enter Tryd.func65, Tryd.ntmps65
                go_wp2_with (first | (go_at_call 73; (with_reducible refine (cooperageref1_digit.calls a0 false _ A6.out).mono ?_); rintro e w' ⟨rfl, ⟨nd, rfl⟩⟩))
                go_ret
                exact ⟨by first | rfl | (simp; done) | (simp [*]; done), by repeat (first | exact Drawn0.refl _ | apply Drawn0.step)⟩
              · rw [if_neg c9] at H
                have c9b0 : (a0 == 45) = false := beq_eq_false_iff_ne.mpr c9
                have c9b1 : (a0 != 45) = true := bne_iff_ne.mpr c9
                by_cases c10 : a0 = 46
                · rw [if_pos c10] at H
                  have c10b0 : (a0 == 46) = true := beq_iff_eq.mpr c10
                  have c10b1 : (a0 != 46) = false := bne_eq_false_iff_eq.mpr c10
                  clear c10
                  obtain rfl := Option.some.inj H
                  go_enter Tryd.func65, Tryd.ntmps65
                  go_wp2_with (first | (go_at_call 73; (with_reducible refine (cooperageref1_digit.calls a0 false _ A6.out).mono ?_); rintro e w' ⟨rfl, ⟨nd, rfl⟩⟩))
                  go_ret
                  exact ⟨by first | rfl | (simp; done) | (simp [*]; done), by repeat (first | exact Drawn0.refl _ | apply Drawn0.step)⟩
                · rw [if_neg c10] at H
                  have c10b0 : (a0 == 46) = false := beq_eq_false_iff_ne.mpr c10
                  have c10b1 : (a0 != 46) = true := bne_iff_ne.mpr c10
                  by_cases c11 : a0 = 47
                  · rw [if_pos c11] at H
                    have c11b0 : (a0 == 47) = true := beq_iff_eq.mpr c11
                    have c11b1 : (a0 != 47) = false := bne_eq_false_iff_eq.mpr c11
                    clear c11
                    obtain rfl := Option.some.inj H
                    go_enter Tryd.func65, Tryd.ntmps65
                    go_wp2_with (first | (go_at_call 73; (with_reducible refine (cooperageref1_digit.calls a0 false _ A6.out).mono ?_); rintro e w' ⟨rfl, ⟨nd, rfl⟩⟩))
                    go_ret
                    exact ⟨by first | rfl | (simp; done) | (simp [*]; done), by repeat (first | exact Drawn0.refl _ | apply Drawn0.step)⟩
                  · rw [if_neg c11] at H
                    have c11b0 : (a0 == 47) = false := beq_eq_false_iff_ne.mpr c11
                    have c11b1 : (a0 != 47) = true := bne_iff_ne.mpr c11
                    obtain rfl := Option.some.inj H
                    go_enter Tryd.func65, Tryd.ntmps65
                    go_wp2_with (first | (go_at_call 73; (with_reducible refine (cooperageref1_digit.calls a0 false _ A6.out).mono ?_); rintro e w' ⟨rfl, ⟨nd, rfl⟩⟩))
                    go_ret
                    exact ⟨by first | rfl | (simp; done) | (simp [*]; done), by repeat (first | exact Drawn0.refl _ | apply Drawn0.step)⟩
      · rw [if_neg c4] at H
        have c4b0 : decide (97 ≤ a0) = false := decide_eq_false c4
        clear c4
        replace H := Option.bind_eq_some_iff.mp H
        obtain ⟨t106, A120, H⟩ := H
        replace H : (if t106 = true then (some true) else (if a0 = 95 then (some true) else (if a0 = 45 then (some true) else (if a0 = 46 then (some true) else (if a0 = 47 then (some true) else (some (a0 == 43))))))) = some r := H
        have A12 := Aside0.mk A120
        clear A120
        by_cases c13 : t106 = true
        · subst c13
          have H1 : (some true) = some r := by rw [if_pos rfl] at H; exact H
          clear H
          have H := H1
          clear H1
          obtain rfl := Option.some.inj H
          go_enter Tryd.func65, Tryd.ntmps65
          go_wp2_with (first | (go_at_call 73; (with_reducible refine (cooperageref1_digit.calls a0 true _ A12.out).mono ?_); rintro e w' ⟨rfl, ⟨nd, rfl⟩⟩))
          go_ret
          exact ⟨by first | rfl | (simp; done) | (simp [*]; done), by repeat (first | exact Drawn0.refl _ | apply Drawn0.step)⟩
        · replace c13 := Bool.eq_false_iff.mpr c13
          subst c13
          have H1 : (if a0 = 95 then (some true) else (if a0 = 45 then (some true) else (if a0 = 46 then (some true) else (if a0 = 47 then (some true) else (some (a0 == 43)))))) = some r := by rw [if_neg (show ¬ (false = true) by decide)] at H; exact H
          clear H
          have H := H1
          clear H1
          by_cases c14 : a0 = 95
          · rw [if_pos c14] at H
            have c14b0 : (a0 == 95) = true := beq_iff_eq.mpr c14
            have c14b1 : (a0 != 95) = false := bne_eq_false_iff_eq.mpr c14
            clear c14
            obtain rfl := Option.some.inj H
            go_enter Tryd.func65, Tryd.ntmps65
            go_wp2_with (first | (go_at_call 73; (with_reducible refine (cooperageref1_digit.calls a0 false _ A12.out).mono ?_); rintro e w' ⟨rfl, ⟨nd, rfl⟩⟩))
            go_ret
            exact ⟨by first | rfl | (simp; done) | (simp [*]; done), by repeat (first | exact Drawn0.refl _ | apply Drawn0.step)⟩
          · rw [if_neg c14] at H
            have c14b0 : (a0 == 95) = false := beq_eq_false_iff_ne.mpr c14
            have c14b1 : (a0 != 95) = true := bne_iff_ne.mpr c14
            by_cases c15 : a0 = 45
            · rw [if_pos c15] at H
              have c15b0 : (a0 == 45) = true := beq_iff_eq.mpr c15
              have c15b1 : (a0 != 45) = false := bne_eq_false_iff_eq.mpr c15
              clear c15
              obtain rfl := Option.some.inj H
              go_enter Tryd.func65, Tryd.ntmps65
              go_wp2_with (first | (go_at_call 73; (with_reducible refine (cooperageref1_digit.calls a0 false _ A12.out).mono ?_); rintro e w' ⟨rfl, ⟨nd, rfl⟩⟩))
              go_ret
              exact ⟨by first | rfl | (simp; done) | (simp [*]; done), by repeat (first | exact Drawn0.refl _ | apply Drawn0.step)⟩
            · rw [if_neg c15] at H
              have c15b0 : (a0 == 45) = false := beq_eq_false_iff_ne.mpr c15
              have c15b1 : (a0 != 45) = true := bne_iff_ne.mpr c15
              by_cases c16 : a0 = 46
              · rw [if_pos c16] at H
                have c16b0 : (a0 == 46) = true := beq_iff_eq.mpr c16
                have c16b1 : (a0 != 46) = false := bne_eq_false_iff_eq.mpr c16
                clear c16
                obtain rfl := Option.some.inj H
                go_enter Tryd.func65, Tryd.ntmps65
                go_wp2_with (first | (go_at_call 73; (with_reducible refine (cooperageref1_digit.calls a0 false _ A12.out).mono ?_); rintro e w' ⟨rfl, ⟨nd, rfl⟩⟩))
                go_ret
                exact ⟨by first | rfl | (simp; done) | (simp [*]; done), by repeat (first | exact Drawn0.refl _ | apply Drawn0.step)⟩
              · rw [if_neg c16] at H
                have c16b0 : (a0 == 46) = false := beq_eq_false_iff_ne.mpr c16
                have c16b1 : (a0 != 46) = true := bne_iff_ne.mpr c16
                by_cases c17 : a0 = 47
                · rw [if_pos c17] at H
                  have c17b0 : (a0 == 47) = true := beq_iff_eq.mpr c17
                  have c17b1 : (a0 != 47) = false := bne_eq_false_iff_eq.mpr c17
                  clear c17
                  obtain rfl := Option.some.inj H
                  go_enter Tryd.func65, Tryd.ntmps65
                  go_wp2_with (first | (go_at_call 73; (with_reducible refine (cooperageref1_digit.calls a0 false _ A12.out).mono ?_); rintro e w' ⟨rfl, ⟨nd, rfl⟩⟩))
                  go_ret
                  exact ⟨by first | rfl | (simp; done) | (simp [*]; done), by repeat (first | exact Drawn0.refl _ | apply Drawn0.step)⟩
                · rw [if_neg c17] at H
                  have c17b0 : (a0 == 47) = false := beq_eq_false_iff_ne.mpr c17
                  have c17b1 : (a0 != 47) = true := bne_iff_ne.mpr c17
                  obtain rfl := Option.some.inj H
                  go_enter Tryd.func65, Tryd.ntmps65
                  go_wp2_with (first | (go_at_call 73; (with_reducible refine (cooperageref1_digit.calls a0 false _ A12.out).mono ?_); rintro e w' ⟨rfl, ⟨nd, rfl⟩⟩))
                  go_ret
                  exact ⟨by first | rfl | (simp; done) | (simp [*]; done), by repeat (first | exact Drawn0.refl _ | apply Drawn0.step)⟩
  · rw [if_neg c2] at H
    have c2b0 : decide (65 ≤ a0) = false := decide_eq_false c2
    clear c2
    by_cases c18 : a0 ≥ 97
    · rw [if_pos c18] at H
      have c18b0 : decide (97 ≤ a0) = true := decide_eq_true c18
      clear c18
      by_cases c19 : a0 ≤ 122
      · rw [if_pos c19] at H
        have c19b0 : decide (a0 ≤ 122) = true := decide_eq_true c19
        clear c19
        obtain rfl := Option.some.inj H
        go_enter Tryd.func65, Tryd.ntmps65
        go_wp2
        go_ret
        exact ⟨by first | rfl | (simp; done) | (simp [*]; done), by repeat (first | exact Drawn0.refl _ | apply Drawn0.step)⟩
      · rw [if_neg c19] at H
        have c19b0 : decide (a0 ≤ 122) = false := decide_eq_false c19
        clear c19
        replace H := Option.bind_eq_some_iff.mp H
        obtain ⟨t107, A200, H⟩ := H
        replace H : (if t107 = true then (some true) else (if a0 = 95 then (some true) else (if a0 = 45 then (some true) else (if a0 = 46 then (some true) else (if a0 = 47 then (some true) else (some (a0 == 43))))))) = some r := H
        have A20 := Aside0.mk A200
        clear A200
        by_cases c21 : t107 = true
        · subst c21
          have H1 : (some true) = some r := by rw [if_pos rfl] at H; exact H
          clear H
          have H := H1
          clear H1
          obtain rfl := Option.some.inj H
          go_enter Tryd.func65, Tryd.ntmps65
          go_wp2_with (first | (go_at_call 73; (with_reducible refine (cooperageref1_digit.calls a0 true _ A20.out).mono ?_); rintro e w' ⟨rfl, ⟨nd, rfl⟩⟩))
          go_ret
          exact ⟨by first | rfl | (simp; done) | (simp [*]; done), by repeat (first | exact Drawn0.refl _ | apply Drawn0.step)⟩
        · replace c21 := Bool.eq_false_iff.mpr c21
          subst c21
          have H1 : (if a0 = 95 then (some true) else (if a0 = 45 then (some true) else (if a0 = 46 then (some true) else (if a0 = 47 then (some true) else (some (a0 == 43)))))) = some r := by rw [if_neg (show ¬ (false = true) by decide)] at H; exact H
          clear H
          have H := H1
          clear H1
          by_cases c22 : a0 = 95
          · rw [if_pos c22] at H
            have c22b0 : (a0 == 95) = true := beq_iff_eq.mpr c22
            have c22b1 : (a0 != 95) = false := bne_eq_false_iff_eq.mpr c22
            clear c22
            obtain rfl := Option.some.inj H
            go_enter Tryd.func65, Tryd.ntmps65
            go_wp2_with (first | (go_at_call 73; (with_reducible refine (cooperageref1_digit.calls a0 false _ A20.out).mono ?_); rintro e w' ⟨rfl, ⟨nd, rfl⟩⟩))
            go_ret
            exact ⟨by first | rfl | (simp; done) | (simp [*]; done), by repeat (first | exact Drawn0.refl _ | apply Drawn0.step)⟩
          · rw [if_neg c22] at H
            have c22b0 : (a0 == 95) = false := beq_eq_false_iff_ne.mpr c22
            have c22b1 : (a0 != 95) = true := bne_iff_ne.mpr c22
            by_cases c23 : a0 = 45
            · rw [if_pos c23] at H
              have c23b0 : (a0 == 45) = true := beq_iff_eq.mpr c23
              have c23b1 : (a0 != 45) = false := bne_eq_false_iff_eq.mpr c23
              clear c23
              obtain rfl := Option.some.inj H
              go_enter Tryd.func65, Tryd.ntmps65
              go_wp2_with (first | (go_at_call 73; (with_reducible refine (cooperageref1_digit.calls a0 false _ A20.out).mono ?_); rintro e w' ⟨rfl, ⟨nd, rfl⟩⟩))
              go_ret
              exact ⟨by first | rfl | (simp; done) | (simp [*]; done), by repeat (first | exact Drawn0.refl _ | apply Drawn0.step)⟩
            · rw [if_neg c23] at H
              have c23b0 : (a0 == 45) = false := beq_eq_false_iff_ne.mpr c23
              have c23b1 : (a0 != 45) = true := bne_iff_ne.mpr c23
              by_cases c24 : a0 = 46
              · rw [if_pos c24] at H
                have c24b0 : (a0 == 46) = true := beq_iff_eq.mpr c24
                have c24b1 : (a0 != 46) = false := bne_eq_false_iff_eq.mpr c24
                clear c24
                obtain rfl := Option.some.inj H
                go_enter Tryd.func65, Tryd.ntmps65
                go_wp2_with (first | (go_at_call 73; (with_reducible refine (cooperageref1_digit.calls a0 false _ A20.out).mono ?_); rintro e w' ⟨rfl, ⟨nd, rfl⟩⟩))
                go_ret
                exact ⟨by first | rfl | (simp; done) | (simp [*]; done), by repeat (first | exact Drawn0.refl _ | apply Drawn0.step)⟩
              · rw [if_neg c24] at H
                have c24b0 : (a0 == 46) = false := beq_eq_false_iff_ne.mpr c24
                have c24b1 : (a0 != 46) = true := bne_iff_ne.mpr c24
                by_cases c25 : a0 = 47
                · rw [if_pos c25] at H
                  have c25b0 : (a0 == 47) = true := beq_iff_eq.mpr c25
                  have c25b1 : (a0 != 47) = false := bne_eq_false_iff_eq.mpr c25
                  clear c25
                  obtain rfl := Option.some.inj H
                  go_enter Tryd.func65, Tryd.ntmps65
                  go_wp2_with (first | (go_at_call 73; (with_reducible refine (cooperageref1_digit.calls a0 false _ A20.out).mono ?_); rintro e w' ⟨rfl, ⟨nd, rfl⟩⟩))
                  go_ret
                  exact ⟨by first | rfl | (simp; done) | (simp [*]; done), by repeat (first | exact Drawn0.refl _ | apply Drawn0.step)⟩
                · rw [if_neg c25] at H
                  have c25b0 : (a0 == 47) = false := beq_eq_false_iff_ne.mpr c25
                  have c25b1 : (a0 != 47) = true := bne_iff_ne.mpr c25
                  obtain rfl := Option.some.inj H
                  go_enter Tryd.func65, Tryd.ntmps65
                  go_wp2_with (first | (go_at_call 73; (with_reducible refine (cooperageref1_digit.calls a0 false _ A20.out).mono ?_); rintro e w' ⟨rfl, ⟨nd, rfl⟩⟩))
                  go_ret
                  exact ⟨by first | rfl | (simp; done) | (simp [*]; done), by repeat (first | exact Drawn0.refl _ | apply Drawn0.step)⟩
    · rw [if_neg c18] at H
      have c18b0 : decide (97 ≤ a0) = false := decide_eq_false c18
      clear c18
      replace H := Option.bind_eq_some_iff.mp H
      obtain ⟨t108, A260, H⟩ := H
      replace H : (if t108 = true then (some true) else (if a0 = 95 then (some true) else (if a0 = 45 then (some true) else (if a0 = 46 then (some true) else (if a0 = 47 then (some true) else (some (a0 == 43))))))) = some r := H
      have A26 := Aside0.mk A260
      clear A260
      by_cases c27 : t108 = true
      · subst c27
        have H1 : (some true) = some r := by rw [if_pos rfl] at H; exact H
        clear H
        have H := H1
        clear H1
        obtain rfl := Option.some.inj H
        go_enter Tryd.func65, Tryd.ntmps65
        go_wp2_with (first | (go_at_call 73; (with_reducible refine (cooperageref1_digit.calls a0 true _ A26.out).mono ?_); rintro e w' ⟨rfl, ⟨nd, rfl⟩⟩))
        go_ret
        exact ⟨by first | rfl | (simp; done) | (simp [*]; done), by repeat (first | exact Drawn0.refl _ | apply Drawn0.step)⟩
      · replace c27 := Bool.eq_false_iff.mpr c27
        subst c27
        have H1 : (if a0 = 95 then (some true) else (if a0 = 45 then (some true) else (if a0 = 46 then (some true) else (if a0 = 47 then (some true) else (some (a0 == 43)))))) = some r := by rw [if_neg (show ¬ (false = true) by decide)] at H; exact H
        clear H
        have H := H1
        clear H1
        by_cases c28 : a0 = 95
        · rw [if_pos c28] at H
          have c28b0 : (a0 == 95) = true := beq_iff_eq.mpr c28
          have c28b1 : (a0 != 95) = false := bne_eq_false_iff_eq.mpr c28
          clear c28
          obtain rfl := Option.some.inj H
          go_enter Tryd.func65, Tryd.ntmps65
          go_wp2_with (first | (go_at_call 73; (with_reducible refine (cooperageref1_digit.calls a0 false _ A26.out).mono ?_); rintro e w' ⟨rfl, ⟨nd, rfl⟩⟩))
          go_ret
          exact ⟨by first | rfl | (simp; done) | (simp [*]; done), by repeat (first | exact Drawn0.refl _ | apply Drawn0.step)⟩
        · rw [if_neg c28] at H
          have c28b0 : (a0 == 95) = false := beq_eq_false_iff_ne.mpr c28
          have c28b1 : (a0 != 95) = true := bne_iff_ne.mpr c28
          by_cases c29 : a0 = 45
          · rw [if_pos c29] at H
            have c29b0 : (a0 == 45) = true := beq_iff_eq.mpr c29
            have c29b1 : (a0 != 45) = false := bne_eq_false_iff_eq.mpr c29
            clear c29
            obtain rfl := Option.some.inj H
            go_enter Tryd.func65, Tryd.ntmps65
            go_wp2_with (first | (go_at_call 73; (with_reducible refine (cooperageref1_digit.calls a0 false _ A26.out).mono ?_); rintro e w' ⟨rfl, ⟨nd, rfl⟩⟩))
            go_ret
            exact ⟨by first | rfl | (simp; done) | (simp [*]; done), by repeat (first | exact Drawn0.refl _ | apply Drawn0.step)⟩
          · rw [if_neg c29] at H
            have c29b0 : (a0 == 45) = false := beq_eq_false_iff_ne.mpr c29
            have c29b1 : (a0 != 45) = true := bne_iff_ne.mpr c29
            by_cases c30 : a0 = 46
            · rw [if_pos c30] at H
              have c30b0 : (a0 == 46) = true := beq_iff_eq.mpr c30
              have c30b1 : (a0 != 46) = false := bne_eq_false_iff_eq.mpr c30
              clear c30
              obtain rfl := Option.some.inj H
              go_enter Tryd.func65, Tryd.ntmps65
              go_wp2_with (first | (go_at_call 73; (with_reducible refine (cooperageref1_digit.calls a0 false _ A26.out).mono ?_); rintro e w' ⟨rfl, ⟨nd, rfl⟩⟩))
              go_ret
              exact ⟨by first | rfl | (simp; done) | (simp [*]; done), by repeat (first | exact Drawn0.refl _ | apply Drawn0.step)⟩
            · rw [if_neg c30] at H
              have c30b0 : (a0 == 46) = false := beq_eq_false_iff_ne.mpr c30
              have c30b1 : (a0 != 46) = true := bne_iff_ne.mpr c30
              by_cases c31 : a0 = 47
              · rw [if_pos c31] at H
                have c31b0 : (a0 == 47) = true := beq_iff_eq.mpr c31
                have c31b1 : (a0 != 47) = false := bne_eq_false_iff_eq.mpr c31
                clear c31
                obtain rfl := Option.some.inj H
                go_enter Tryd.func65, Tryd.ntmps65
                go_wp2_with (first | (go_at_call 73; (with_reducible refine (cooperageref1_digit.calls a0 false _ A26.out).mono ?_); rintro e w' ⟨rfl, ⟨nd, rfl⟩⟩))
                go_ret
                exact ⟨by first | rfl | (simp; done) | (simp [*]; done), by repeat (first | exact Drawn0.refl _ | apply Drawn0.step)⟩
              · rw [if_neg c31] at H
                have c31b0 : (a0 == 47) = false := beq_eq_false_iff_ne.mpr c31
                have c31b1 : (a0 != 47) = true := bne_iff_ne.mpr c31
                obtain rfl := Option.some.inj H
                go_enter Tryd.func65, Tryd.ntmps65
                go_wp2_with (first | (go_at_call 73; (with_reducible refine (cooperageref1_digit.calls a0 false _ A26.out).mono ?_); rintro e w' ⟨rfl, ⟨nd, rfl⟩⟩))
                go_ret
                exact ⟨by first | rfl | (simp; done) | (simp [*]; done), by repeat (first | exact Drawn0.refl _ | apply Drawn0.step)⟩

end Go.Proofs.YtajiidkmijeidaaDoor.F
namespace Go.Proofs.YtajiidkmijeidaaDoor.F
open Go.Proofs.YtajiidkmijeidaaDoor.Fr
open Go.Proofs.YtajiidkmijeidaaDoor
open Go.RowKit Go.Proofs.YtajiidkmijeidaaDoorW.PrintWords Go.Proofs.YtajiidkmijeidaaDoorW.PrintLast Go.Proofs.YtajiidkmijeidaaDoorW.PrintMore
attribute [local go_sem] max2_int min2_int max_two min_two max_three min_three max_four min_four   -- for this text's walks alone
set_option linter.unusedVariables false
set_option linter.unusedSimpArgs false

/-! ### cooperageref1_Path: function 53 -/
mutual
def cooperageref1_Path.j0 : Nat → ByteArray → Bool → Option (Bool)
  | 0, _, _ => none
  | k + 1, x0, x13 => if x13 = true then (some false) else (cooperageref1_Path.l0 k x0 0 (⟨#[]⟩ : ByteArray) 0)
def cooperageref1_Path.l0 : Nat → ByteArray → Int → ByteArray → Int → Option (Bool)
  | 0, _, _, _, _ => none
  | k + 1, x0, x3, x4, x5 => if x5 ≤ (x0.size : Int) then (if x5 < (x0.size : Int) then (if 0 ≤ x5 then ((cooperageref1_plain.f (bt x0 x5)).bind fun t109 => (cooperageref1_Path.j2 k x0 x3 x4 x5 (!t109))) else (none)) else (cooperageref1_Path.j2 k x0 x3 x4 x5 false)) else (some (decide (x3 ≤ 8)))
def cooperageref1_Path.j2 : Nat → ByteArray → Int → ByteArray → Int → Bool → Option (Bool)
  | 0, _, _, _, _, _ => none
  | k + 1, x0, x3, x4, x5, x30 => if x30 = true then (some false) else (if x5 < (x0.size : Int) then (if 0 ≤ x5 then (cooperageref1_Path.j3 k x0 x3 x4 x5 ((bt x0 x5) != 47)) else (none)) else (cooperageref1_Path.j3 k x0 x3 x4 x5 false))
def cooperageref1_Path.j3 : Nat → ByteArray → Int → ByteArray → Int → Bool → Option (Bool)
  | 0, _, _, _, _, _ => none
  | k + 1, x0, x3, x4, x5, x40 => if x40 = true then (if 0 ≤ x5 then (if x5 ≤ (wrap64 (x5 + 1)) then (if (wrap64 (x5 + 1)) ≤ (x0.size : Int) then (if x4.size + (x0.extract (x5 : Int).toNat ((wrap64 (x5 + 1)) : Int).toNat).size ≤ 9223372036854775807 then (cooperageref1_Path.l0 k x0 x3 (x4 ++ (x0.extract (x5 : Int).toNat ((wrap64 (x5 + 1)) : Int).toNat)) (wrap64 (x5 + 1))) else (none)) else (none)) else (none)) else (none)) else (if x4.toList = ([] : List UInt8) then (some false) else (if x4.toList = ([46] : List UInt8) then (some false) else (if x4.toList = ([46, 46] : List UInt8) then (some false) else (cooperageref1_Path.l0 k x0 (wrap64 (x3 + 1)) (⟨#[]⟩ : ByteArray) (wrap64 (x5 + 1))))))
end
def cooperageref1_Path.f (k : Nat) (a0 : ByteArray) : Option (Bool) := if (a0.size : Int) < 1 then (cooperageref1_Path.j0 k a0 true) else (cooperageref1_Path.j0 k a0 (decide ((a0.size : Int) > 100)))
theorem cooperageref1_Path.mono_l : ∀ k, (∀ y0 y1, LeO (cooperageref1_Path.j0 k y0 y1) (cooperageref1_Path.j0 (k + 1) y0 y1)) ∧ (∀ y0 y1 y2 y3, LeO (cooperageref1_Path.l0 k y0 y1 y2 y3) (cooperageref1_Path.l0 (k + 1) y0 y1 y2 y3)) ∧ (∀ y0 y1 y2 y3 y4, LeO (cooperageref1_Path.j2 k y0 y1 y2 y3 y4) (cooperageref1_Path.j2 (k + 1) y0 y1 y2 y3 y4)) ∧ (∀ y0 y1 y2 y3 y4, LeO (cooperageref1_Path.j3 k y0 y1 y2 y3 y4) (cooperageref1_Path.j3 (k + 1) y0 y1 y2 y3 y4))
  | 0 => ⟨fun _ _ r h => by simp [cooperageref1_Path.j0] at h, fun _ _ _ _ r h => by simp [cooperageref1_Path.l0] at h, fun _ _ _ _ _ r h => by simp [cooperageref1_Path.j2] at h, fun _ _ _ _ _ r h => by simp [cooperageref1_Path.j3] at h⟩
  | k + 1 => by
    obtain ⟨ih0, ih1, ih2, ih3⟩ := cooperageref1_Path.mono_l k
    refine ⟨?_, ?_, ?_, ?_⟩
    · intro y0 y1
      unfold cooperageref1_Path.j0
      repeat' first
      | (with_reducible exact ih0 _ _)
      | (with_reducible exact ih1 _ _ _ _)
      | (with_reducible exact ih2 _ _ _ _ _)
      | (with_reducible exact ih3 _ _ _ _ _)
      | (with_reducible exact LeO.refl _)
      | (with_reducible exact LeO.none _)
      | (with_reducible refine LeO.ite ?_ ?_)
      | (with_reducible refine LeO.bind ?_ (fun _ => ?_))
      | exact ih0 _ _
      | exact ih1 _ _ _ _
      | exact ih2 _ _ _ _ _
      | exact ih3 _ _ _ _ _
      | exact LeO.none _
      | refine LeO.ite ?_ ?_
      | refine LeO.bind ?_ (fun _ => ?_)
    · intro y0 y1 y2 y3
      unfold cooperageref1_Path.l0
      repeat' first
      | (with_reducible exact ih0 _ _)
      | (with_reducible exact ih1 _ _ _ _)
      | (with_reducible exact ih2 _ _ _ _ _)
      | (with_reducible exact ih3 _ _ _ _ _)
      | (with_reducible exact LeO.refl _)
      | (with_reducible exact LeO.none _)
      | (with_reducible refine LeO.ite ?_ ?_)
      | (with_reducible refine LeO.bind ?_ (fun _ => ?_))
      | exact ih0 _ _
      | exact ih1 _ _ _ _
      | exact ih2 _ _ _ _ _
      | exact ih3 _ _ _ _ _
      | exact LeO.none _
      | refine LeO.ite ?_ ?_
      | refine LeO.bind ?_ (fun _ => ?_)
    · intro y0 y1 y2 y3 y4
      unfold cooperageref1_Path.j2
      repeat' first
      | (with_reducible exact ih0 _ _)
      | (with_reducible exact ih1 _ _ _ _)
      | (with_reducible exact ih2 _ _ _ _ _)
      | (with_reducible exact ih3 _ _ _ _ _)
      | (with_reducible exact LeO.refl _)
      | (with_reducible exact LeO.none _)
      | (with_reducible refine LeO.ite ?_ ?_)
      | (with_reducible refine LeO.bind ?_ (fun _ => ?_))
      | exact ih0 _ _
      | exact ih1 _ _ _ _
      | exact ih2 _ _ _ _ _
      | exact ih3 _ _ _ _ _
      | exact LeO.none _
      | refine LeO.ite ?_ ?_
      | refine LeO.bind ?_ (fun _ => ?_)
    · intro y0 y1 y2 y3 y4
      unfold cooperageref1_Path.j3
      repeat' first
      | (with_reducible exact ih0 _ _)
      | (with_reducible exact ih1 _ _ _ _)
      | (with_reducible exact ih2 _ _ _ _ _)
      | (with_reducible exact ih3 _ _ _ _ _)
      | (with_reducible exact LeO.refl _)
      | (with_reducible exact LeO.none _)
      | (with_reducible refine LeO.ite ?_ ?_)
      | (with_reducible refine LeO.bind ?_ (fun _ => ?_))
      | exact ih0 _ _
      | exact ih1 _ _ _ _
      | exact ih2 _ _ _ _ _
      | exact ih3 _ _ _ _ _
      | exact LeO.none _
      | refine LeO.ite ?_ ?_
      | refine LeO.bind ?_ (fun _ => ?_)
theorem cooperageref1_Path.mono : ∀ a0 k, LeO (cooperageref1_Path.f k a0) (cooperageref1_Path.f (k + 1) a0) := by
  intro a0 k
  obtain ⟨ih0, ih1, ih2, ih3⟩ := cooperageref1_Path.mono_l k
  unfold cooperageref1_Path.f
  repeat' first
      | (with_reducible exact ih0 _ _)
      | (with_reducible exact ih1 _ _ _ _)
      | (with_reducible exact ih2 _ _ _ _ _)
      | (with_reducible exact ih3 _ _ _ _ _)
      | (with_reducible exact LeO.refl _)
      | (with_reducible exact LeO.none _)
      | (with_reducible refine LeO.ite ?_ ?_)
      | (with_reducible refine LeO.bind ?_ (fun _ => ?_))
      | exact ih0 _ _
      | exact ih1 _ _ _ _
      | exact ih2 _ _ _ _ _
      | exact ih3 _ _ _ _ _
      | exact LeO.none _
      | refine LeO.ite ?_ ?_
      | refine LeO.bind ?_ (fun _ => ?_)
set_option maxHeartbeats 8000000 in
set_option maxRecDepth 100000 in
theorem cooperageref1_Path.calls (k : Nat) (a0 : ByteArray) (r : Bool) (w : World) (h : cooperageref1_Path.f k a0 = some r) :
    Calls Tryd.prog 53 #[.string a0] w fun e w' => e = .returned (.bool r) ∧ Drawn0 w w' := by
  have H : (if (a0.size : Int) < 1 then (cooperageref1_Path.j0 k a0 true) else (cooperageref1_Path.j0 k a0 (decide ((a0.size : Int) > 100)))) = some r := h
  clear h
  have HC2 := Aside0.mk H
  clear H
  go_enter Tryd.func53, Tryd.ntmps53
  go_upto_region 1 with (fail)
  go_cut [13] (fun v13 wc => ∃ (kq : Nat) (x13_1 : Bool), v13 = .bool x13_1 ∧ Aside0 (cooperageref1_Path.j0 kq a0 x13_1 = some r) ∧ Aside0 (kq ≤ k) ∧ Drawn0 w wc)
  case first =>
    have H := HC2.out
    clear HC2
    by_cases c3 : (a0.size : Int) < 1
    · rw [if_pos c3] at H
      have c3b0 : decide ((a0.size : Int) < 1) = true := decide_eq_true c3
      have c3b1 : decide (a0.size < 1) = true := decide_eq_true (by omega)
      clear c3
      (first | rw [c3b0] | (simp only [i64_w, i32_w]; rw [c3b0]) | skip)
      have H' := Aside0.mk H
      clear H
      go_wp2
      go_meet
      case rel => exact ⟨_, (true), (by first | rfl | (simp; done) | (simp [*]; done)), H', ⟨by first | omega | exact Nat.le_refl _⟩, by repeat (first | exact Drawn0.refl _ | apply Drawn0.step)⟩
    · rw [if_neg c3] at H
      have c3b0 : decide ((a0.size : Int) < 1) = false := decide_eq_false c3
      have c3b1 : decide (a0.size < 1) = false := decide_eq_false (by omega)
      clear c3
      (first | rw [c3b0] | (simp only [i64_w, i32_w]; rw [c3b0]) | skip)
      have H' := Aside0.mk H
      clear H
      go_wp2
      go_meet
      case rel => exact ⟨_, (decide ((a0.size : Int) > 100)), (by first | rfl | (simp; done) | (simp [*]; done)), H', ⟨by first | omega | exact Nat.le_refl _⟩, by repeat (first | exact Drawn0.refl _ | apply Drawn0.step)⟩
  case rest =>
    clear HC2
    try clear p2
    try clear c3
    try clear c3b0
    try clear c3b1
    obtain ⟨kq, x13_1, rfl, HA, HJ1, ⟨mc1, rfl⟩⟩ := hcut
    cases kq with
    | zero => exact absurd HA.out (by simp [cooperageref1_Path.j0])
    | succ kj1 =>
      have H := HA.out
      clear HA
      simp only [cooperageref1_Path.j0] at H
      by_cases c4 : x13_1 = true
      · subst c4
        have H1 : (some false) = some r := by rw [if_pos rfl] at H; exact H
        clear H
        have H := H1
        clear H1
        obtain rfl := Option.some.inj H
        go_wp2
        go_ret
        exact ⟨by first | rfl | (simp; done) | (simp [*]; done), by repeat (first | exact Drawn0.refl _ | apply Drawn0.step)⟩
      · replace c4 := Bool.eq_false_iff.mpr c4
        subst c4
        have H1 : (cooperageref1_Path.l0 kj1 a0 0 (⟨#[]⟩ : ByteArray) 0) = some r := by rw [if_neg (show ¬ (false = true) by decide)] at H; exact H
        clear H
        have H := H1
        clear H1
        have H' := Aside0.mk H
        clear H
        go_wp2
        go_loopg [3, 4, 5] kj1 (fun kq v3 v4 v5 w' => ∃ (x3_2 : Int) (x4_2 : ByteArray) (x5_2 : Int), v3 = .int .i64 x3_2 ∧ v4 = .string x4_2 ∧ v5 = .int .i64 x5_2 ∧ Aside0 (cooperageref1_Path.l0 kq a0 x3_2 x4_2 x5_2 = some r) ∧ Aside0 (kq ≤ kj1) ∧ Drawn0 w w')
        case atStart => exact ⟨(0), ((⟨#[]⟩ : ByteArray)), (0), (by first | rfl | (simp; done) | (simp [*]; done)), (by first | rfl | (simp; done) | (simp [*]; done)), (by first | rfl | (simp; done) | (simp [*]; done)), H', ⟨Nat.le_refl _⟩, by repeat (first | exact Drawn0.refl _ | apply Drawn0.step)⟩
        case round =>
          clear H'
          try clear c1
          try clear p2
          try clear c3
          try clear c3b0
          try clear c3b1
          try clear c4
          try clear p2
          obtain ⟨x3_2, x4_2, x5_2, rfl, rfl, rfl, HA, HK2, ⟨m2, rfl⟩⟩ := hrel
          cases gk with
          | zero => exact absurd HA.out (by simp [cooperageref1_Path.l0])
          | succ k2 =>
            have H := HA.out
            clear HA
            simp only [cooperageref1_Path.l0] at H
            by_cases c5 : x5_2 ≤ (a0.size : Int)
            · rw [if_pos c5] at H
              have c5b0 : decide (x5_2 ≤ (a0.size : Int)) = true := decide_eq_true c5
              clear c5
              have HC6 := Aside0.mk H
              clear H
              go_upto_region 8 with (fail)
              go_cut [30] (fun v30 wc => ∃ (kq : Nat) (x30_5 : Bool), v30 = .bool x30_5 ∧ Aside0 (cooperageref1_Path.j2 kq a0 x3_2 x4_2 x5_2 x30_5 = some r) ∧ Aside0 (kq ≤ k2) ∧ Drawn0 w wc)
              case first =>
                have H := HC6.out
                clear HC6
                by_cases c7 : x5_2 < (a0.size : Int)
                · rw [if_pos c7] at H
                  have c7b0 : decide (x5_2 < (a0.size : Int)) = true := decide_eq_true c7
                  clear c7
                  (first | rw [c7b0] | (simp only [i64_w, i32_w]; rw [c7b0]) | skip)
                  by_cases c8 : 0 ≤ x5_2
                  · rw [if_pos c8] at H
                    have c8b0 : decide (0 ≤ x5_2) = true := decide_eq_true c8
                    clear c8
                    replace H := Option.bind_eq_some_iff.mp H
                    obtain ⟨t109, A100, H⟩ := H
                    replace H : (cooperageref1_Path.j2 k2 a0 x3_2 x4_2 x5_2 (!t109)) = some r := H
                    have A10 := Aside0.mk A100
                    clear A100
                    have H' := Aside0.mk H
                    clear H
                    have p9 : 0 ≤ (x5_2 : Int) := of_decide_eq_true (by first | (with_reducible assumption) | assumption)
                    have q9 : x5_2 < (a0.size : Int) := of_decide_eq_true (by first | (with_reducible assumption) | assumption)
                    have hx9 := bt_at a0 x5_2
                    replace p9 := eq_true p9
                    replace q9 := eq_true q9
                    go_wp2_with (first | (go_at_call 65; (with_reducible refine (cooperageref1_plain.calls (bt a0 x5_2) t109 _ A10.out).mono ?_); rintro e w' ⟨rfl, ⟨nd, rfl⟩⟩))
                    go_meet
                    case rel => exact ⟨_, (!t109), (by first | rfl | (simp; done) | (simp [*]; done)), H', ⟨by have := HJ1.out; have := HK2.out; first | omega | exact Nat.le_refl _⟩, by repeat (first | exact Drawn0.refl _ | apply Drawn0.step)⟩
                  · rw [if_neg c8] at H
                    exact absurd H (by simp)
                · rw [if_neg c7] at H
                  have c7b0 : decide (x5_2 < (a0.size : Int)) = false := decide_eq_false c7
                  clear c7
                  (first | rw [c7b0] | (simp only [i64_w, i32_w]; rw [c7b0]) | skip)
                  have H' := Aside0.mk H
                  clear H
                  go_wp2
                  go_meet
                  case rel => exact ⟨_, (false), (by first | rfl | (simp; done) | (simp [*]; done)), H', ⟨by have := HJ1.out; have := HK2.out; first | omega | exact Nat.le_refl _⟩, by repeat (first | exact Drawn0.refl _ | apply Drawn0.step)⟩
              case rest =>
                clear HC6
                try clear c1
                try clear p2
                try clear c3
                try clear c3b0
                try clear c3b1
                try clear c4
                try clear c5
                try clear c5b0
                try clear c7
                try clear c7b0
                try clear c8
                try clear c8b0
                try clear p9
                try clear q9
                try clear hx9
                try clear p2
                try clear p9
                try clear q9
                obtain ⟨kq, x30_5, rfl, HA, HJ5, ⟨mc5, rfl⟩⟩ := hcut
                cases kq with
                | zero => exact absurd HA.out (by simp [cooperageref1_Path.j2])
                | succ kj5 =>
                  have H := HA.out
                  clear HA
                  simp only [cooperageref1_Path.j2] at H
                  by_cases c11 : x30_5 = true
                  · subst c11
                    have H1 : (some false) = some r := by rw [if_pos rfl] at H; exact H
                    clear H
                    have H := H1
                    clear H1
                    obtain rfl := Option.some.inj H
                    go_wp2
                    go_ret
                    exact ⟨by first | rfl | (simp; done) | (simp [*]; done), by repeat (first | exact Drawn0.refl _ | apply Drawn0.step)⟩
                  · replace c11 := Bool.eq_false_iff.mpr c11
                    subst c11
                    have H1 : (if x5_2 < (a0.size : Int) then (if 0 ≤ x5_2 then (cooperageref1_Path.j3 kj5 a0 x3_2 x4_2 x5_2 ((bt a0 x5_2) != 47)) else (none)) else (cooperageref1_Path.j3 kj5 a0 x3_2 x4_2 x5_2 false)) = some r := by rw [if_neg (show ¬ (false = true) by decide)] at H; exact H
                    clear H
                    have H := H1
                    clear H1
                    have HC12 := Aside0.mk H
                    clear H
                    go_upto_region 10 with (fail)
                    go_cut [40] (fun v40 wc => ∃ (kq : Nat) (x40_11 : Bool), v40 = .bool x40_11 ∧ Aside0 (cooperageref1_Path.j3 kq a0 x3_2 x4_2 x5_2 x40_11 = some r) ∧ Aside0 (kq ≤ kj5) ∧ Drawn0 w wc)
                    case first =>
                      have H := HC12.out
                      clear HC12
                      by_cases c13 : x5_2 < (a0.size : Int)
                      · rw [if_pos c13] at H
                        have c13b0 : decide (x5_2 < (a0.size : Int)) = true := decide_eq_true c13
                        clear c13
                        (first | rw [c13b0] | (simp only [i64_w, i32_w]; rw [c13b0]) | skip)
                        by_cases c14 : 0 ≤ x5_2
                        · rw [if_pos c14] at H
                          have c14b0 : decide (0 ≤ x5_2) = true := decide_eq_true c14
                          clear c14
                          have H' := Aside0.mk H
                          clear H
                          have p15 : 0 ≤ (x5_2 : Int) := of_decide_eq_true (by first | (with_reducible assumption) | assumption)
                          have q15 : x5_2 < (a0.size : Int) := of_decide_eq_true (by first | (with_reducible assumption) | assumption)
                          have hx15 := bt_at a0 x5_2
                          replace p15 := eq_true p15
                          replace q15 := eq_true q15
                          go_wp2
                          go_meet
                          case rel => exact ⟨_, (((bt a0 x5_2) != 47)), (by first | rfl | (simp; done) | (simp [*]; done)), H', ⟨by have := HJ1.out; have := HK2.out; have := HJ5.out; first | omega | exact Nat.le_refl _⟩, by repeat (first | exact Drawn0.refl _ | apply Drawn0.step)⟩
                        · rw [if_neg c14] at H
                          exact absurd H (by simp)
                      · rw [if_neg c13] at H
                        have c13b0 : decide (x5_2 < (a0.size : Int)) = false := decide_eq_false c13
                        clear c13
                        (first | rw [c13b0] | (simp only [i64_w, i32_w]; rw [c13b0]) | skip)
                        have H' := Aside0.mk H
                        clear H
                        go_wp2
                        go_meet
                        case rel => exact ⟨_, (false), (by first | rfl | (simp; done) | (simp [*]; done)), H', ⟨by have := HJ1.out; have := HK2.out; have := HJ5.out; first | omega | exact Nat.le_refl _⟩, by repeat (first | exact Drawn0.refl _ | apply Drawn0.step)⟩
                    case rest =>
                      clear HC12
                      try clear c1
                      try clear p1
                      try clear q1
                      try clear hx1
                      try clear p2
                      try clear c3
                      try clear c3b0
                      try clear c3b1
                      try clear c4
                      try clear c5
                      try clear c5b0
                      try clear c7
                      try clear c7b0
                      try clear c8
                      try clear c8b0
                      try clear p9
                      try clear q9
                      try clear hx9
                      try clear c11
                      try clear c13
                      try clear c13b0
                      try clear c14
                      try clear c14b0
                      try clear p15
                      try clear q15
                      try clear hx15
                      try clear p15
                      try clear p2
                      try clear p9
                      try clear q15
                      try clear q9
                      obtain ⟨kq, x40_11, rfl, HA, HJ11, ⟨mc11, rfl⟩⟩ := hcut
                      cases kq with
                      | zero => exact absurd HA.out (by simp [cooperageref1_Path.j3])
                      | succ kj11 =>
                        have H := HA.out
                        clear HA
                        simp only [cooperageref1_Path.j3] at H
                        by_cases c16 : x40_11 = true
                        · subst c16
                          have H1 : (if 0 ≤ x5_2 then (if x5_2 ≤ (wrap64 (x5_2 + 1)) then (if (wrap64 (x5_2 + 1)) ≤ (a0.size : Int) then (if x4_2.size + (a0.extract (x5_2 : Int).toNat ((wrap64 (x5_2 + 1)) : Int).toNat).size ≤ 9223372036854775807 then (cooperageref1_Path.l0 kj11 a0 x3_2 (x4_2 ++ (a0.extract (x5_2 : Int).toNat ((wrap64 (x5_2 + 1)) : Int).toNat)) (wrap64 (x5_2 + 1))) else (none)) else (none)) else (none)) else (none)) = some r := by rw [if_pos rfl] at H; exact H
                          clear H
                          have H := H1
                          clear H1
                          by_cases c17 : 0 ≤ x5_2
                          · rw [if_pos c17] at H
                            have c17b0 := eq_true c17
                            have c17b1 : decide (0 ≤ x5_2) = true := decide_eq_true c17
                            clear c17
                            by_cases c18 : x5_2 ≤ (wrap64 (x5_2 + 1))
                            · rw [if_pos c18] at H
                              have c18b0 := eq_true c18
                              have c18b1 : decide (x5_2 ≤ (wrap64 (x5_2 + 1))) = true := decide_eq_true c18
                              by_cases c19 : (wrap64 (x5_2 + 1)) ≤ (a0.size : Int)
                              · rw [if_pos c19] at H
                                have c19b0 := eq_true c19
                                have c19b1 : decide ((wrap64 (x5_2 + 1)) ≤ (a0.size : Int)) = true := decide_eq_true c19
                                by_cases c20 : x4_2.size + (a0.extract (x5_2 : Int).toNat ((wrap64 (x5_2 + 1)) : Int).toNat).size ≤ 9223372036854775807
                                · rw [if_pos c20] at H
                                  have c20b0 := eq_true c20
                                  have c20b1 : decide (x4_2.size + (a0.extract (x5_2 : Int).toNat ((wrap64 (x5_2 + 1)) : Int).toNat).size ≤ 9223372036854775807) = true := decide_eq_true c20
                                  try have c20b2 : (9223372036854775807 < x4_2.size + (a0.extract (x5_2 : Int).toNat ((wrap64 (x5_2 + 1)) : Int).toNat).size) = False := eq_false (Nat.not_lt.2 c20)
                                  have H' := Aside0.mk H
                                  clear H
                                  go_wp2
                                  go_roundg kj11
                                  case measure => have := HJ1.out; have := HK2.out; have := HJ5.out; have := HJ11.out; omega
                                  case rel => exact ⟨(x3_2), (x4_2 ++ (a0.extract (x5_2 : Int).toNat ((wrap64 (x5_2 + 1)) : Int).toNat)), (wrap64 (x5_2 + 1)), (by first | rfl | (simp; done) | (simp [*]; done)), (by first | rfl | (simp; done) | (simp [*]; done)), (by first | rfl | (simp; done) | (simp [*]; done)), H', ⟨by have := HJ1.out; have := HK2.out; have := HJ5.out; have := HJ11.out; omega⟩, by repeat (first | exact Drawn0.refl _ | apply Drawn0.step)⟩
                                · rw [if_neg c20] at H
                                  exact absurd H (by simp)
                              · rw [if_neg c19] at H
                                exact absurd H (by simp)
                            · rw [if_neg c18] at H
                              exact absurd H (by simp)
                          · rw [if_neg c17] at H
                            exact absurd H (by simp)
                        · replace c16 := Bool.eq_false_iff.mpr c16
                          subst c16
                          have H1 : (if x4_2.toList = ([] : List UInt8) then (some false) else (if x4_2.toList = ([46] : List UInt8) then (some false) else (if x4_2.toList = ([46, 46] : List UInt8) then (some false) else (cooperageref1_Path.l0 kj11 a0 (wrap64 (x3_2 + 1)) (⟨#[]⟩ : ByteArray) (wrap64 (x5_2 + 1)))))) = some r := by rw [if_neg (show ¬ (false = true) by decide)] at H; exact H
                          clear H
                          have H := H1
                          clear H1
                          by_cases c21 : x4_2.toList = ([] : List UInt8)
                          · rw [if_pos c21] at H
                            have c21b0 : (x4_2.toList == ([] : List UInt8)) = true := beq_iff_eq.mpr c21
                            have c21b1 : (x4_2.toList != ([] : List UInt8)) = false := bne_eq_false_iff_eq.mpr c21
                            clear c21
                            obtain rfl := Option.some.inj H
                            go_wp2
                            go_ret
                            exact ⟨by first | rfl | (simp; done) | (simp [*]; done), by repeat (first | exact Drawn0.refl _ | apply Drawn0.step)⟩
                          · rw [if_neg c21] at H
                            have c21b0 : (x4_2.toList == ([] : List UInt8)) = false := beq_eq_false_iff_ne.mpr c21
                            have c21b1 : (x4_2.toList != ([] : List UInt8)) = true := bne_iff_ne.mpr c21
                            by_cases c22 : x4_2.toList = ([46] : List UInt8)
                            · rw [if_pos c22] at H
                              have c22b0 : (x4_2.toList == ([46] : List UInt8)) = true := beq_iff_eq.mpr c22
                              have c22b1 : (x4_2.toList != ([46] : List UInt8)) = false := bne_eq_false_iff_eq.mpr c22
                              clear c22
                              obtain rfl := Option.some.inj H
                              go_wp2
                              go_ret
                              exact ⟨by first | rfl | (simp; done) | (simp [*]; done), by repeat (first | exact Drawn0.refl _ | apply Drawn0.step)⟩
                            · rw [if_neg c22] at H
                              have c22b0 : (x4_2.toList == ([46] : List UInt8)) = false := beq_eq_false_iff_ne.mpr c22
                              have c22b1 : (x4_2.toList != ([46] : List UInt8)) = true := bne_iff_ne.mpr c22
                              by_cases c23 : x4_2.toList = ([46, 46] : List UInt8)
                              · rw [if_pos c23] at H
                                have c23b0 : (x4_2.toList == ([46, 46] : List UInt8)) = true := beq_iff_eq.mpr c23
                                have c23b1 : (x4_2.toList != ([46, 46] : List UInt8)) = false := bne_eq_false_iff_eq.mpr c23
                                clear c23
                                obtain rfl := Option.some.inj H
                                go_wp2
                                go_ret
                                exact ⟨by first | rfl | (simp; done) | (simp [*]; done), by repeat (first | exact Drawn0.refl _ | apply Drawn0.step)⟩
                              · rw [if_neg c23] at H
                                have c23b0 : (x4_2.toList == ([46, 46] : List UInt8)) = false := beq_eq_false_iff_ne.mpr c23
                                have c23b1 : (x4_2.toList != ([46, 46] : List UInt8)) = true := bne_iff_ne.mpr c23
                                have H' := Aside0.mk H
                                clear H
                                go_wp2
                                go_roundg kj11
                                case measure => have := HJ1.out; have := HK2.out; have := HJ5.out; have := HJ11.out; omega
                                case rel => exact ⟨(wrap64 (x3_2 + 1)), ((⟨#[]⟩ : ByteArray)), (wrap64 (x5_2 + 1)), (by first | rfl | (simp; done) | (simp [*]; done)), (by first | rfl | (simp; done) | (simp [*]; done)), (by first | rfl | (simp; done) | (simp [*]; done)), H', ⟨by have := HJ1.out; have := HK2.out; have := HJ5.out; have := HJ11.out; omega⟩, by repeat (first | exact Drawn0.refl _ | apply Drawn0.step)⟩
            · rw [if_neg c5] at H
              have c5b0 : decide (x5_2 ≤ (a0.size : Int)) = false := decide_eq_false c5
              clear c5
              obtain rfl := Option.some.inj H
              go_wp2
              go_ret
              exact ⟨by first | rfl | (simp; done) | (simp [*]; done), by repeat (first | exact Drawn0.refl _ | apply Drawn0.step)⟩

end Go.Proofs.YtajiidkmijeidaaDoor.F
namespace Go.Proofs.YtajiidkmijeidaaDoor.F
open Go.Proofs.YtajiidkmijeidaaDoor.Fr
open Go.Proofs.YtajiidkmijeidaaDoor
open Go.RowKit Go.Proofs.YtajiidkmijeidaaDoorW.PrintWords Go.Proofs.YtajiidkmijeidaaDoorW.PrintLast Go.Proofs.YtajiidkmijeidaaDoorW.PrintMore
attribute [local go_sem] max2_int min2_int max_two min_two max_three min_three max_four min_four   -- for this text's walks alone
set_option linter.unusedVariables false
set_option linter.unusedSimpArgs false

/-! ### cooperageref5_Find: function 50 -/
def cooperageref5_Find.l0 : Nat → List (S90) → ByteArray → Int → Option (Int)
  | 0, _, _, _ => none
  | k + 1, x0, x1, x5 => if x5 < (x0.length : Int) then (if 0 ≤ x5 then (if ((rd_T90 x0 x5).f0).toList = x1.toList then (some x5) else (cooperageref5_Find.l0 k x0 x1 (wrap64 (x5 + 1)))) else (none)) else (some (-1))
def cooperageref5_Find.f (k : Nat) (l0 : List (S90)) (a1 : ByteArray) : Option (Int) := cooperageref5_Find.l0 k l0 a1 0
theorem cooperageref5_Find.mono_l : ∀ k, (∀ y0 y1 y2, LeO (cooperageref5_Find.l0 k y0 y1 y2) (cooperageref5_Find.l0 (k + 1) y0 y1 y2))
  | 0 => fun _ _ _ r h => by simp [cooperageref5_Find.l0] at h
  | k + 1 => by
    have ih0 := cooperageref5_Find.mono_l k
    · intro y0 y1 y2
      unfold cooperageref5_Find.l0
      repeat' first
      | (with_reducible exact ih0 _ _ _)
      | (with_reducible exact LeO.refl _)
      | (with_reducible exact LeO.none _)
      | (with_reducible refine LeO.ite ?_ ?_)
      | (with_reducible refine LeO.bind ?_ (fun _ => ?_))
      | exact ih0 _ _ _
      | exact LeO.none _
      | refine LeO.ite ?_ ?_
      | refine LeO.bind ?_ (fun _ => ?_)
theorem cooperageref5_Find.mono : ∀ a0 a1 k, LeO (cooperageref5_Find.f k a0 a1) (cooperageref5_Find.f (k + 1) a0 a1) := by
  intro a0 a1 k
  have ih0 := cooperageref5_Find.mono_l k
  unfold cooperageref5_Find.f
  repeat' first
      | (with_reducible exact ih0 _ _ _)
      | (with_reducible exact LeO.refl _)
      | (with_reducible exact LeO.none _)
      | (with_reducible refine LeO.ite ?_ ?_)
      | (with_reducible refine LeO.bind ?_ (fun _ => ?_))
      | exact ih0 _ _ _
      | exact LeO.none _
      | refine LeO.ite ?_ ?_
      | refine LeO.bind ?_ (fun _ => ?_)
set_option maxHeartbeats 8000000 in
set_option maxRecDepth 100000 in
theorem cooperageref5_Find.calls (k : Nat) (A0 : Option Addr) (c0 : Nat) (l0 : List (S90)) (a1 : ByteArray) (r : Int) (w : World) (hr0 : Kd.C k90 w A0 l0.length l0) (hc0 : l0.length ≤ c0) (h : cooperageref5_Find.f k l0 a1 = some r) :
    Calls Tryd.prog 50 #[.slice A0 l0.length c0, .string a1] w fun e w' => e = .returned (.int .i64 r) ∧ Drawn0 w w' := by
  have HR0 := Aside0.mk hr0
  have HC0 := Aside0.mk hc0
  clear hr0 hc0
  have H : (cooperageref5_Find.l0 k l0 a1 0) = some r := h
  clear h
  have H' := Aside0.mk H
  clear H
  go_enter Tryd.func50, Tryd.ntmps50
  go_wp2
  go_loopg [5] k (fun kq v5 w' => ∃ (x5_1 : Int), v5 = .int .i64 x5_1 ∧ Aside0 (cooperageref5_Find.l0 kq l0 a1 x5_1 = some r) ∧ Aside0 (kq ≤ k) ∧ Drawn0 w w')
  case atStart => exact ⟨(0), (by first | rfl | (simp; done) | (simp [*]; done)), H', ⟨Nat.le_refl _⟩, by repeat (first | exact Drawn0.refl _ | apply Drawn0.step)⟩
  case round =>
    clear H'
    try clear p2
    obtain ⟨x5_1, rfl, HA, HK1, ⟨m1, rfl⟩⟩ := hrel
    cases gk with
    | zero => exact absurd HA.out (by simp [cooperageref5_Find.l0])
    | succ k1 =>
      have H := HA.out
      clear HA
      simp only [cooperageref5_Find.l0] at H
      by_cases c3 : x5_1 < (l0.length : Int)
      · rw [if_pos c3] at H
        have c3b0 : decide (x5_1 < (l0.length : Int)) = true := decide_eq_true c3
        clear c3
        by_cases c4 : 0 ≤ x5_1
        · rw [if_pos c4] at H
          have c4b0 : decide (0 ≤ x5_1) = true := decide_eq_true c4
          clear c4
          by_cases c5 : ((rd_T90 l0 x5_1).f0).toList = a1.toList
          · rw [if_pos c5] at H
            have c5b0 : (((rd_T90 l0 x5_1).f0).toList == a1.toList) = true := beq_iff_eq.mpr c5
            have c5b1 : (((rd_T90 l0 x5_1).f0).toList != a1.toList) = false := bne_eq_false_iff_eq.mpr c5
            clear c5
            obtain rfl := Option.some.inj H
            have p110 : 0 ≤ (x5_1 : Int) := of_decide_eq_true (by first | (with_reducible assumption) | assumption)
            have q110 : x5_1 < (l0.length : Int) := of_decide_eq_true (by first | (with_reducible assumption) | assumption)
            obtain ⟨ad110, e110, hx110_0, hx110_1, hx110_2⟩ := at_T90 HR0.out x5_1 p110 q110
            cases e110
            replace p110 := eq_true p110
            replace q110 := eq_true q110
            go_wp2
            go_ret
            exact ⟨by first | rfl | (simp; done) | (simp [*]; done), by repeat (first | exact Drawn0.refl _ | apply Drawn0.step)⟩
          · rw [if_neg c5] at H
            have c5b0 : (((rd_T90 l0 x5_1).f0).toList == a1.toList) = false := beq_eq_false_iff_ne.mpr c5
            have c5b1 : (((rd_T90 l0 x5_1).f0).toList != a1.toList) = true := bne_iff_ne.mpr c5
            have H' := Aside0.mk H
            clear H
            have p110 : 0 ≤ (x5_1 : Int) := of_decide_eq_true (by first | (with_reducible assumption) | assumption)
            have q110 : x5_1 < (l0.length : Int) := of_decide_eq_true (by first | (with_reducible assumption) | assumption)
            obtain ⟨ad110, e110, hx110_0, hx110_1, hx110_2⟩ := at_T90 HR0.out x5_1 p110 q110
            cases e110
            replace p110 := eq_true p110
            replace q110 := eq_true q110
            go_wp2
            go_roundg k1
            case measure => have := HK1.out; omega
            case rel => exact ⟨(wrap64 (x5_1 + 1)), (by first | rfl | (simp; done) | (simp [*]; done)), H', ⟨by have := HK1.out; omega⟩, by repeat (first | exact Drawn0.refl _ | apply Drawn0.step)⟩
        · rw [if_neg c4] at H
          exact absurd H (by simp)
      · rw [if_neg c3] at H
        have c3b0 : decide (x5_1 < (l0.length : Int)) = false := decide_eq_false c3
        clear c3
        obtain rfl := Option.some.inj H
        go_wp2
        go_ret
        exact ⟨by first | rfl | (simp; done) | (simp [*]; done), by repeat (first | exact Drawn0.refl _ | apply Drawn0.step)⟩

/-! ### cooperageref5_drop: function 55 -/
def cooperageref5_drop.l0 : Nat → List (S90) → ByteArray → List (S90) → Int → Option ((List (S90)))
  | 0, _, _, _, _ => none
  | k + 1, x0, x1, x5, x6 => if x6 < (x0.length : Int) then (if 0 ≤ x6 then (if ((rd_T90 x0 x6).f0).toList = x1.toList then (cooperageref5_drop.l0 k x0 x1 x5 (wrap64 (x6 + 1))) else (if x5.length < 3518437208883 then (cooperageref5_drop.l0 k x0 x1 (x5 ++ [(⟨(rd_T90 x0 x6).f0, (rd_T90 x0 x6).f1, (rd_T90 x0 x6).f2⟩ : S90)]) (wrap64 (x6 + 1))) else (none))) else (none)) else (some x5)
def cooperageref5_drop.f (k : Nat) (l0 : List (S90)) (a1 : ByteArray) : Option ((List (S90))) := cooperageref5_drop.l0 k l0 a1 ([] : List (S90)) 0
theorem cooperageref5_drop.mono_l : ∀ k, (∀ y0 y1 y2 y3, LeO (cooperageref5_drop.l0 k y0 y1 y2 y3) (cooperageref5_drop.l0 (k + 1) y0 y1 y2 y3))
  | 0 => fun _ _ _ _ r h => by simp [cooperageref5_drop.l0] at h
  | k + 1 => by
    have ih0 := cooperageref5_drop.mono_l k
    · intro y0 y1 y2 y3
      unfold cooperageref5_drop.l0
      repeat' first
      | (with_reducible exact ih0 _ _ _ _)
      | (with_reducible exact LeO.refl _)
      | (with_reducible exact LeO.none _)
      | (with_reducible refine LeO.ite ?_ ?_)
      | (with_reducible refine LeO.bind ?_ (fun _ => ?_))
      | exact ih0 _ _ _ _
      | exact LeO.none _
      | refine LeO.ite ?_ ?_
      | refine LeO.bind ?_ (fun _ => ?_)
theorem cooperageref5_drop.mono : ∀ a0 a1 k, LeO (cooperageref5_drop.f k a0 a1) (cooperageref5_drop.f (k + 1) a0 a1) := by
  intro a0 a1 k
  have ih0 := cooperageref5_drop.mono_l k
  unfold cooperageref5_drop.f
  repeat' first
      | (with_reducible exact ih0 _ _ _ _)
      | (with_reducible exact LeO.refl _)
      | (with_reducible exact LeO.none _)
      | (with_reducible refine LeO.ite ?_ ?_)
      | (with_reducible refine LeO.bind ?_ (fun _ => ?_))
      | exact ih0 _ _ _ _
      | exact LeO.none _
      | refine LeO.ite ?_ ?_
      | refine LeO.bind ?_ (fun _ => ?_)
set_option maxHeartbeats 8000000 in
set_option maxRecDepth 100000 in
theorem cooperageref5_drop.calls (k : Nat) (A0 : Option Addr) (c0 : Nat) (l0 : List (S90)) (a1 : ByteArray) (r : List (S90)) (w : World) (hr0 : Kd.C k90 w A0 l0.length l0) (hc0 : l0.length ≤ c0) (h : cooperageref5_drop.f k l0 a1 = some r) :
    Calls Tryd.prog 55 #[.slice A0 l0.length c0, .string a1] w fun e w' => ∃ v0_ : Value, e = .returned (v0_) ∧ Kd.R k90 90 w' w.heap.size (fun _ => True) v0_ r ∧ Below w.heap.size w w' := by
  have hu90 := Tryd.underlying90
  have HR0 := Aside0.mk hr0
  have HC0 := Aside0.mk hc0
  clear hr0 hc0
  have HB := Aside0.mk (Below.refl w.heap.size w)
  have H : (cooperageref5_drop.l0 k l0 a1 ([] : List (S90)) 0) = some r := h
  clear h
  have H' := Aside0.mk H
  clear H
  go_enter Tryd.func55, Tryd.ntmps55
  go_wp2
  go_loopg [5, 6] k (fun kq v5 v6 w' => ∃ (x5_1 : List (S90)) (x6_1 : Int), v6 = .int .i64 x6_1 ∧ Aside0 (cooperageref5_drop.l0 kq l0 a1 x5_1 x6_1 = some r) ∧ Aside0 (kq ≤ k) ∧ Aside0 (Kd.R k90 90 w' w.heap.size (fun _ => True) v5 x5_1) ∧ Aside0 (Below w.heap.size w w'))
  case atStart => exact ⟨(([] : List (S90))), (0), (by first | rfl | (simp; done) | (simp [*]; done)), H', ⟨Nat.le_refl _⟩, ⟨by first | exact Kd.R_nil _ _ _ _ _ | exact Kd.N_nil _ _ _ _ _ | exact Kd.V_nil _ _ _ _ _ | exact Kd.Q_nil _ _ _ _ _ | exact Kd.S_nil _ _ _ _ _⟩, ⟨by repeat (first | (with_reducible first | exact HB.out | apply below_alloc | apply pw_below_drewN | apply below_drew1) | exact HB.out)⟩⟩
  case round =>
    clear H'
    try clear p2
    obtain ⟨x5_1, x6_1, rfl, HA, HK1, HO_5, HB⟩ := hrel
    cases gk with
    | zero => exact absurd HA.out (by simp [cooperageref5_drop.l0])
    | succ k1 =>
      have H := HA.out
      clear HA
      simp only [cooperageref5_drop.l0] at H
      by_cases c3 : x6_1 < (l0.length : Int)
      · rw [if_pos c3] at H
        have c3b0 : decide (x6_1 < (l0.length : Int)) = true := decide_eq_true c3
        clear c3
        by_cases c4 : 0 ≤ x6_1
        · rw [if_pos c4] at H
          have c4b0 : decide (0 ≤ x6_1) = true := decide_eq_true c4
          clear c4
          by_cases c5 : ((rd_T90 l0 x6_1).f0).toList = a1.toList
          · rw [if_pos c5] at H
            have c5b0 : (((rd_T90 l0 x6_1).f0).toList == a1.toList) = true := beq_iff_eq.mpr c5
            have c5b1 : (((rd_T90 l0 x6_1).f0).toList != a1.toList) = false := bne_eq_false_iff_eq.mpr c5
            clear c5
            have H' := Aside0.mk H
            clear H
            have p111 : 0 ≤ (x6_1 : Int) := of_decide_eq_true (by first | (with_reducible assumption) | assumption)
            have q111 : x6_1 < (l0.length : Int) := of_decide_eq_true (by first | (with_reducible assumption) | assumption)
            obtain ⟨ad111, e111, hx111_0, hx111_1, hx111_2⟩ := at_T90 HR0.out x6_1 p111 q111
            cases e111
            replace hx111_0 := (HB.out.cell (World.block_lt_of_cell? w _ hx111_0)).trans hx111_0
            replace hx111_1 := (HB.out.cell (World.block_lt_of_cell? w _ hx111_1)).trans hx111_1
            replace hx111_2 := (HB.out.cell (World.block_lt_of_cell? w _ hx111_2)).trans hx111_2
            replace p111 := eq_true p111
            replace q111 := eq_true q111
            go_wp2
            go_roundg k1
            case measure => have := HK1.out; omega
            case rel => exact ⟨(x5_1), (wrap64 (x6_1 + 1)), (by first | rfl | (simp; done) | (simp [*]; done)), H', ⟨by have := HK1.out; omega⟩, ⟨by (with_reducible repeat (first | apply Kd.R_alloc | apply Kd.R_drewN | apply Kd.R_drew)); exact HO_5.out⟩, ⟨by repeat (first | (with_reducible first | exact HB.out | apply below_alloc | apply pw_below_drewN | apply below_drew1) | exact HB.out)⟩⟩
          · rw [if_neg c5] at H
            have c5b0 : (((rd_T90 l0 x6_1).f0).toList == a1.toList) = false := beq_eq_false_iff_ne.mpr c5
            have c5b1 : (((rd_T90 l0 x6_1).f0).toList != a1.toList) = true := bne_iff_ne.mpr c5
            by_cases c6 : x5_1.length < 3518437208883
            · rw [if_pos c6] at H
              have LMc6 := Aside0.mk c6
              clear c6
              obtain ⟨y113, hy113⟩ : ∃ y_ : List (S90), y_ = (x5_1 ++ [(⟨(rd_T90 l0 x6_1).f0, (rd_T90 l0 x6_1).f1, (rd_T90 l0 x6_1).f2⟩ : S90)]) := ⟨_, rfl⟩
              replace H : (cooperageref5_drop.l0 k1 l0 a1 y113 (wrap64 (x6_1 + 1))) = some r := by first | (rw [hy113]; with_reducible exact H) | (have H2_ := (Option.bind_some _ _).symm.trans H; rw [hy113]; with_reducible exact H2_) | (have H2_ := (Option.bind_some _ _).symm.trans H; with_reducible exact H2_) | with_reducible exact H | (rw [hy113]; exact H) | exact H
              have Ny113 := Aside0.mk hy113
              clear hy113
              have H' := Aside0.mk H
              clear H
              have p111 : 0 ≤ (x6_1 : Int) := of_decide_eq_true (by first | (with_reducible assumption) | assumption)
              have q111 : x6_1 < (l0.length : Int) := of_decide_eq_true (by first | (with_reducible assumption) | assumption)
              obtain ⟨ad111, e111, hx111_0, hx111_1, hx111_2⟩ := at_T90 HR0.out x6_1 p111 q111
              cases e111
              replace hx111_0 := (HB.out.cell (World.block_lt_of_cell? w _ hx111_0)).trans hx111_0
              replace hx111_1 := (HB.out.cell (World.block_lt_of_cell? w _ hx111_1)).trans hx111_1
              replace hx111_2 := (HB.out.cell (World.block_lt_of_cell? w _ hx111_2)).trans hx111_2
              replace p111 := eq_true p111
              replace q111 := eq_true q111
              have p112 : 0 ≤ (x6_1 : Int) := of_decide_eq_true (by first | (with_reducible assumption) | assumption)
              have q112 : x6_1 < (l0.length : Int) := of_decide_eq_true (by first | (with_reducible assumption) | assumption)
              obtain ⟨ad112, e112, hx112_0, hx112_1, hx112_2⟩ := at_T90 HR0.out x6_1 p112 q112
              obtain rfl : ad111 = ad112 := (by injection e112)
              replace hx112_0 := (HB.out.cell (World.block_lt_of_cell? w _ hx112_0)).trans hx112_0
              replace hx112_1 := (HB.out.cell (World.block_lt_of_cell? w _ hx112_1)).trans hx112_1
              replace hx112_2 := (HB.out.cell (World.block_lt_of_cell? w _ hx112_2)).trans hx112_2
              replace p112 := eq_true p112
              replace q112 := eq_true q112
              go_wp2_with (first | ((with_reducible refine gate_builtin (b := .append) (xs := #[.tmp 20, .tmp 25]) rfl ?_); at_builtin; refine Kd.R_append k90 (w0 := w) w.heap.size rfl (.tmp 20) (.tmp 25) 85 90 (.agg #[(.string ⟨#[]⟩), (.string ⟨#[]⟩), (.int .i64 0)]) 40 rfl Tryd.underlying85 info90 rfl (by decide) (by omega) u5 x5_1 (⟨(rd_T90 l0 x6_1).f0, (rd_T90 l0 x6_1).f1, (rd_T90 l0 x6_1).f2⟩ : S90) [.string ((rd_T90 l0 x6_1).f0), .string ((rd_T90 l0 x6_1).f1), .int .i64 ((rd_T90 l0 x6_1).f2)] (fun _ => True) (fun _ => False) rfl rfl ?aP (fun _ hk => hk.elim) ?aF ?aO ?aB ?aS ?aL ?_; (case aP => exact k90_mkM _ _ _ (⟨(rd_T90 l0 x6_1).f0, (rd_T90 l0 x6_1).f1, (rd_T90 l0 x6_1).f2⟩ : S90)); (case aB => exact (by repeat (first | (with_reducible first | exact HB.out | apply below_alloc | apply pw_below_drewN | apply below_drew1) | exact HB.out))); (case aF => exact (fun _ _ => trivial)); (case aO => exact (by (with_reducible repeat (first | apply Kd.R_alloc | apply Kd.R_drewN | apply Kd.R_drew)); exact HO_5.out)); (case aS => exact (below_size (by repeat (first | (with_reducible first | exact HB.out | apply below_alloc | apply pw_below_drewN | apply below_drew1) | exact HB.out)))); (case aL => have := LMc6.out; omega); intro v114 w7 ho hb hg hat; rw [← Ny113.out] at ho; have n0_ := Aside0.mk (hb); have n1_ := Aside0.mk (ho); clear HB; clear HO_5; have HB := n0_; have HO115 := n1_; clear n0_ n1_; clear ho hb hg hat))
              go_roundg k1
              case measure => have := HK1.out; omega
              case rel => exact ⟨(y113), (wrap64 (x6_1 + 1)), (by first | rfl | (simp; done) | (simp [*]; done)), H', ⟨by have := HK1.out; omega⟩, ⟨by (with_reducible repeat (first | apply Kd.R_alloc | apply Kd.R_drewN | apply Kd.R_drew)); exact HO115.out⟩, ⟨by repeat (first | (with_reducible first | exact HB.out | apply below_alloc | apply pw_below_drewN | apply below_drew1) | exact HB.out)⟩⟩
            · rw [if_neg c6] at H
              exact absurd H (by simp)
        · rw [if_neg c4] at H
          exact absurd H (by simp)
      · rw [if_neg c3] at H
        have c3b0 : decide (x6_1 < (l0.length : Int)) = false := decide_eq_false c3
        clear c3
        obtain rfl := Option.some.inj H
        go_wp2
        go_ret
        exact ⟨_, by first | rfl | (simp [errW_none, errW_some] <;> rfl) | (simp [*, errW_none, errW_some] <;> rfl), by (with_reducible repeat (first | apply Kd.R_alloc | apply Kd.R_drewN | apply Kd.R_drew)); exact HO_5.out, by repeat (first | (with_reducible first | exact HB.out | apply below_alloc | apply pw_below_drewN | apply below_drew1) | exact HB.out)⟩

end Go.Proofs.YtajiidkmijeidaaDoor.F
namespace Go.Proofs.YtajiidkmijeidaaDoor.F
open Go.Proofs.YtajiidkmijeidaaDoor.Fr
open Go.Proofs.YtajiidkmijeidaaDoor
open Go.RowKit Go.Proofs.YtajiidkmijeidaaDoorW.PrintWords Go.Proofs.YtajiidkmijeidaaDoorW.PrintLast Go.Proofs.YtajiidkmijeidaaDoorW.PrintMore
attribute [local go_sem] max2_int min2_int max_two min_two max_three min_three max_four min_four   -- for this text's walks alone
set_option linter.unusedVariables false
set_option linter.unusedSimpArgs false

/-! ### cooperageref5_put: function 67 -/
def cooperageref5_put.l0 : Nat → List (S90) → List (S90) → Bool → Int → ByteArray → ByteArray → Int → Option ((List (S90)))
  | 0, _, _, _, _, _, _, _ => none
  | k + 1, x5, x6, x7, x8, x117000, x117001, x117002 => if x8 < (x5.length : Int) then (if x7 = true then (if 0 ≤ x8 then (if x6.length < 3518437208883 then (cooperageref5_put.l0 k x5 (x6 ++ [(⟨(rd_T90 x5 x8).f0, (rd_T90 x5 x8).f1, (rd_T90 x5 x8).f2⟩ : S90)]) x7 (wrap64 (x8 + 1)) x117000 x117001 x117002) else (none)) else (none)) else (if 0 ≤ x8 then (if (Op.bytesLess x117000.toList (((rd_T90 x5 x8).f0).toList)) = true then (if x6.length < 3518437208883 then ((some (x6 ++ [(⟨x117000, x117001, x117002⟩ : S90)] : List (S90))).bind fun y125 => (if y125.length < 3518437208883 then (cooperageref5_put.l0 k x5 (y125 ++ [(⟨(rd_T90 x5 x8).f0, (rd_T90 x5 x8).f1, (rd_T90 x5 x8).f2⟩ : S90)]) true (wrap64 (x8 + 1)) x117000 x117001 x117002) else (none))) else (none)) else (if x6.length < 3518437208883 then (cooperageref5_put.l0 k x5 (x6 ++ [(⟨(rd_T90 x5 x8).f0, (rd_T90 x5 x8).f1, (rd_T90 x5 x8).f2⟩ : S90)]) x7 (wrap64 (x8 + 1)) x117000 x117001 x117002) else (none))) else (none))) else (if x7 = true then (some x6) else (if x6.length < 3518437208883 then (some (x6 ++ [(⟨x117000, x117001, x117002⟩ : S90)])) else (none)))
def cooperageref5_put.f (k : Nat) (l0 : List (S90)) (a1_0 : ByteArray) (a1_1 : ByteArray) (a1_2 : Int) : Option ((List (S90))) := (cooperageref5_drop.f k l0 a1_0).bind fun t117 => (cooperageref5_put.l0 k t117 ([] : List (S90)) false 0 a1_0 a1_1 a1_2)
theorem cooperageref5_put.mono_l : ∀ k, (∀ y0 y1 y2 y3 y4 y5 y6, LeO (cooperageref5_put.l0 k y0 y1 y2 y3 y4 y5 y6) (cooperageref5_put.l0 (k + 1) y0 y1 y2 y3 y4 y5 y6))
  | 0 => fun _ _ _ _ _ _ _ r h => by simp [cooperageref5_put.l0] at h
  | k + 1 => by
    have ih0 := cooperageref5_put.mono_l k
    · intro y0 y1 y2 y3 y4 y5 y6
      unfold cooperageref5_put.l0
      repeat' first
      | (with_reducible exact ih0 _ _ _ _ _ _ _)
      | (with_reducible exact cooperageref5_drop.mono _ _ _)
      | (with_reducible exact LeO.refl _)
      | (with_reducible exact LeO.none _)
      | (with_reducible refine LeO.ite ?_ ?_)
      | (with_reducible refine LeO.bind ?_ (fun _ => ?_))
      | exact ih0 _ _ _ _ _ _ _
      | exact cooperageref5_drop.mono _ _ _
      | exact LeO.none _
      | refine LeO.ite ?_ ?_
      | refine LeO.bind ?_ (fun _ => ?_)
theorem cooperageref5_put.mono : ∀ a0 a1 a2 a3 k, LeO (cooperageref5_put.f k a0 a1 a2 a3) (cooperageref5_put.f (k + 1) a0 a1 a2 a3) := by
  intro a0 a1 a2 a3 k
  have ih0 := cooperageref5_put.mono_l k
  unfold cooperageref5_put.f
  repeat' first
      | (with_reducible exact ih0 _ _ _ _ _ _ _)
      | (with_reducible exact cooperageref5_drop.mono _ _ _)
      | (with_reducible exact LeO.refl _)
      | (with_reducible exact LeO.none _)
      | (with_reducible refine LeO.ite ?_ ?_)
      | (with_reducible refine LeO.bind ?_ (fun _ => ?_))
      | exact ih0 _ _ _ _ _ _ _
      | exact cooperageref5_drop.mono _ _ _
      | exact LeO.none _
      | refine LeO.ite ?_ ?_
      | refine LeO.bind ?_ (fun _ => ?_)
set_option maxHeartbeats 8000000 in
set_option maxRecDepth 100000 in
theorem cooperageref5_put.calls (k : Nat) (A0 : Option Addr) (c0 : Nat) (l0 : List (S90)) (a1_0 : ByteArray) (a1_1 : ByteArray) (a1_2 : Int) (r : List (S90)) (w : World) (hr0 : Kd.C k90 w A0 l0.length l0) (hc0 : l0.length ≤ c0) (h : cooperageref5_put.f k l0 a1_0 a1_1 a1_2 = some r) :
    Calls Tryd.prog 67 #[.slice A0 l0.length c0, .agg #[.string a1_0, .string a1_1, .int .i64 a1_2]] w fun e w' => ∃ v0_ : Value, e = .returned (v0_) ∧ Kd.R k90 90 w' w.heap.size (fun _ => True) v0_ r ∧ Below w.heap.size w w' := by
  have hu90 := Tryd.underlying90
  have HR0 := Aside0.mk hr0
  have HC0 := Aside0.mk hc0
  clear hr0 hc0
  have HB := Aside0.mk (Below.refl w.heap.size w)
  have H : ((cooperageref5_drop.f k l0 a1_0).bind fun t117 => (cooperageref5_put.l0 k t117 ([] : List (S90)) false 0 a1_0 a1_1 a1_2)) = some r := h
  clear h
  replace H := Option.bind_eq_some_iff.mp H
  obtain ⟨t117, A30, H⟩ := H
  replace H : (cooperageref5_put.l0 k t117 ([] : List (S90)) false 0 a1_0 a1_1 a1_2) = some r := H
  have A3 := Aside0.mk A30
  clear A30
  have H' := Aside0.mk H
  clear H
  go_enter Tryd.func67, Tryd.ntmps67
  go_wp2_with (first | ((with_reducible refine gate_dst (N := 3) rfl ?_); refine box_event ?hg (N := 3) ?hd (cs := #[.string a1_0, .string a1_1, .int .i64 a1_2]) (t := 90) ?hr ?_; (case hd => rfl); (case hg => rfl); (case hr => first | (go_simp; done) | (go_simp; rfl)); intro gb116 hg w4 hbox hb; have n0_ := Aside0.mk (below_step (by repeat (first | (with_reducible first | exact HB.out | apply below_alloc | apply pw_below_drewN | apply below_drew1) | exact HB.out)) hb); have n1_ := Aside0.mk (hbox); have n2_ := Aside0.mk ((by rw [hg]; exact (below_size (by repeat (first | (with_reducible first | exact HB.out | apply below_alloc | apply pw_below_drewN | apply below_drew1) | exact HB.out))) : w.heap.size ≤ gb116)); have n3_ := Aside0.mk ((by rw [hg]; exact (below_size (by repeat (first | (with_reducible first | exact HB.out | apply below_alloc | apply pw_below_drewN | apply below_drew1) | exact HB.out))) : w.heap.size ≤ gb116)); clear HB; have HB := n0_; have BK116 := n1_; have GW116 := n2_; have GE116 := n3_; clear n0_ n1_ n2_ n3_; clear hb hbox hg; have hcz5_0 : w4.cell? ⟨gb116, 0, none⟩ = some (.string a1_0) := (blk_cell BK116.out 0).trans rfl; have hcz5_1 : w4.cell? ⟨gb116, 1, none⟩ = some (.string a1_1) := (blk_cell BK116.out 1).trans rfl; have hcz5_2 : w4.cell? ⟨gb116, 2, none⟩ = some (.int .i64 a1_2) := (blk_cell BK116.out 2).trans rfl; have hfz5_0 := blk_frozen BK116.out 0; have hfz5_1 := blk_frozen BK116.out 1; have hfz5_2 := blk_frozen BK116.out 2) | (go_at_call 55; (with_reducible refine (cooperageref5_drop.calls k _ _ l0 a1_0 t117 _ ?side1 ?side2 A3.out).mono ?_); (case side1 => repeat (first | exact (Kd.C_below HR0.out HB.out) | (with_reducible refine Kd.C_alloc ?_ _) | (with_reducible refine Kd.C_drewN ?_ _) | (with_reducible refine Kd.C_drew ?_))); (case side2 => exact HC0.out); rintro e w6 ⟨v118, rfl, ho0, hb⟩; have n0_ := Aside0.mk (Kd.R_lower (Kd.R_newB ho0 (g := gb116) (o := .cells #[.string a1_0, .string a1_1, .int .i64 a1_2] 90 (0, 0)) (by (with_reducible repeat (first | refine blk_drewN ?_ _ | refine blk_drew ?_ | refine blk_alloc ?_ _)); exact BK116.out)) (below_size (by repeat (first | (with_reducible first | exact HB.out | apply below_alloc | apply pw_below_drewN | apply below_drew1 | refine below_set ?_ GE116.out) | exact HB.out)))); have n1_ := Aside0.mk (blk_below (g := gb116) (o := .cells #[.string a1_0, .string a1_1, .int .i64 a1_2] 90 (0, 0)) (by (with_reducible repeat (first | refine blk_drewN ?_ _ | refine blk_drew ?_ | refine blk_alloc ?_ _)); exact BK116.out) hb); have n2_ := Aside0.mk (below_step (by repeat (first | (with_reducible first | exact HB.out | apply below_alloc | apply pw_below_drewN | apply below_drew1 | refine below_set ?_ GE116.out) | exact HB.out)) hb); clear BK116; clear HB; have HO119 := n0_; have BK116 := n1_; have HB := n2_; clear n0_ n1_ n2_; (try clear hb); (try clear hb2); (try clear hk); (try clear hi); (try clear ho0)))
  repeat (go_quiet (first | ((with_reducible refine gate_dst (N := 3) rfl ?_); refine box_event ?hg (N := 3) ?hd (cs := #[.string a1_0, .string a1_1, .int .i64 a1_2]) (t := 90) ?hr ?_; (case hd => rfl); (case hg => rfl); (case hr => first | (go_simp; done) | (go_simp; rfl)); intro gb116 hg w4 hbox hb; have n0_ := Aside0.mk (below_step (by repeat (first | (with_reducible first | exact HB.out | apply below_alloc | apply pw_below_drewN | apply below_drew1) | exact HB.out)) hb); have n1_ := Aside0.mk (hbox); have n2_ := Aside0.mk ((by rw [hg]; exact (below_size (by repeat (first | (with_reducible first | exact HB.out | apply below_alloc | apply pw_below_drewN | apply below_drew1) | exact HB.out))) : w.heap.size ≤ gb116)); have n3_ := Aside0.mk ((by rw [hg]; exact (below_size (by repeat (first | (with_reducible first | exact HB.out | apply below_alloc | apply pw_below_drewN | apply below_drew1) | exact HB.out))) : w.heap.size ≤ gb116)); clear HB; have HB := n0_; have BK116 := n1_; have GW116 := n2_; have GE116 := n3_; clear n0_ n1_ n2_ n3_; clear hb hbox hg; have hcz5_0 : w4.cell? ⟨gb116, 0, none⟩ = some (.string a1_0) := (blk_cell BK116.out 0).trans rfl; have hcz5_1 : w4.cell? ⟨gb116, 1, none⟩ = some (.string a1_1) := (blk_cell BK116.out 1).trans rfl; have hcz5_2 : w4.cell? ⟨gb116, 2, none⟩ = some (.int .i64 a1_2) := (blk_cell BK116.out 2).trans rfl; have hfz5_0 := blk_frozen BK116.out 0; have hfz5_1 := blk_frozen BK116.out 1; have hfz5_2 := blk_frozen BK116.out 2) | (go_at_call 55; (with_reducible refine (cooperageref5_drop.calls k _ _ l0 a1_0 t117 _ ?side1 ?side2 A3.out).mono ?_); (case side1 => repeat (first | exact (Kd.C_below HR0.out HB.out) | (with_reducible refine Kd.C_alloc ?_ _) | (with_reducible refine Kd.C_drewN ?_ _) | (with_reducible refine Kd.C_drew ?_))); (case side2 => exact HC0.out); rintro e w6 ⟨v118, rfl, ho0, hb⟩; have n0_ := Aside0.mk (Kd.R_lower (Kd.R_newB ho0 (g := gb116) (o := .cells #[.string a1_0, .string a1_1, .int .i64 a1_2] 90 (0, 0)) (by (with_reducible repeat (first | refine blk_drewN ?_ _ | refine blk_drew ?_ | refine blk_alloc ?_ _)); exact BK116.out)) (below_size (by repeat (first | (with_reducible first | exact HB.out | apply below_alloc | apply pw_below_drewN | apply below_drew1 | refine below_set ?_ GE116.out) | exact HB.out)))); have n1_ := Aside0.mk (blk_below (g := gb116) (o := .cells #[.string a1_0, .string a1_1, .int .i64 a1_2] 90 (0, 0)) (by (with_reducible repeat (first | refine blk_drewN ?_ _ | refine blk_drew ?_ | refine blk_alloc ?_ _)); exact BK116.out) hb); have n2_ := Aside0.mk (below_step (by repeat (first | (with_reducible first | exact HB.out | apply below_alloc | apply pw_below_drewN | apply below_drew1 | refine below_set ?_ GE116.out) | exact HB.out)) hb); clear BK116; clear HB; have HO119 := n0_; have BK116 := n1_; have HB := n2_; clear n0_ n1_ n2_; (try clear hb); (try clear hb2); (try clear hk); (try clear hi); (try clear ho0))); try go_wp2_with (first | ((with_reducible refine gate_dst (N := 3) rfl ?_); refine box_event ?hg (N := 3) ?hd (cs := #[.string a1_0, .string a1_1, .int .i64 a1_2]) (t := 90) ?hr ?_; (case hd => rfl); (case hg => rfl); (case hr => first | (go_simp; done) | (go_simp; rfl)); intro gb116 hg w4 hbox hb; have n0_ := Aside0.mk (below_step (by repeat (first | (with_reducible first | exact HB.out | apply below_alloc | apply pw_below_drewN | apply below_drew1) | exact HB.out)) hb); have n1_ := Aside0.mk (hbox); have n2_ := Aside0.mk ((by rw [hg]; exact (below_size (by repeat (first | (with_reducible first | exact HB.out | apply below_alloc | apply pw_below_drewN | apply below_drew1) | exact HB.out))) : w.heap.size ≤ gb116)); have n3_ := Aside0.mk ((by rw [hg]; exact (below_size (by repeat (first | (with_reducible first | exact HB.out | apply below_alloc | apply pw_below_drewN | apply below_drew1) | exact HB.out))) : w.heap.size ≤ gb116)); clear HB; have HB := n0_; have BK116 := n1_; have GW116 := n2_; have GE116 := n3_; clear n0_ n1_ n2_ n3_; clear hb hbox hg; have hcz5_0 : w4.cell? ⟨gb116, 0, none⟩ = some (.string a1_0) := (blk_cell BK116.out 0).trans rfl; have hcz5_1 : w4.cell? ⟨gb116, 1, none⟩ = some (.string a1_1) := (blk_cell BK116.out 1).trans rfl; have hcz5_2 : w4.cell? ⟨gb116, 2, none⟩ = some (.int .i64 a1_2) := (blk_cell BK116.out 2).trans rfl; have hfz5_0 := blk_frozen BK116.out 0; have hfz5_1 := blk_frozen BK116.out 1; have hfz5_2 := blk_frozen BK116.out 2) | (go_at_call 55; (with_reducible refine (cooperageref5_drop.calls k _ _ l0 a1_0 t117 _ ?side1 ?side2 A3.out).mono ?_); (case side1 => repeat (first | exact (Kd.C_below HR0.out HB.out) | (with_reducible refine Kd.C_alloc ?_ _) | (with_reducible refine Kd.C_drewN ?_ _) | (with_reducible refine Kd.C_drew ?_))); (case side2 => exact HC0.out); rintro e w6 ⟨v118, rfl, ho0, hb⟩; have n0_ := Aside0.mk (Kd.R_lower (Kd.R_newB ho0 (g := gb116) (o := .cells #[.string a1_0, .string a1_1, .int .i64 a1_2] 90 (0, 0)) (by (with_reducible repeat (first | refine blk_drewN ?_ _ | refine blk_drew ?_ | refine blk_alloc ?_ _)); exact BK116.out)) (below_size (by repeat (first | (with_reducible first | exact HB.out | apply below_alloc | apply pw_below_drewN | apply below_drew1 | refine below_set ?_ GE116.out) | exact HB.out)))); have n1_ := Aside0.mk (blk_below (g := gb116) (o := .cells #[.string a1_0, .string a1_1, .int .i64 a1_2] 90 (0, 0)) (by (with_reducible repeat (first | refine blk_drewN ?_ _ | refine blk_drew ?_ | refine blk_alloc ?_ _)); exact BK116.out) hb); have n2_ := Aside0.mk (below_step (by repeat (first | (with_reducible first | exact HB.out | apply below_alloc | apply pw_below_drewN | apply below_drew1 | refine below_set ?_ GE116.out) | exact HB.out)) hb); clear BK116; clear HB; have HO119 := n0_; have BK116 := n1_; have HB := n2_; clear n0_ n1_ n2_; (try clear hb); (try clear hb2); (try clear hk); (try clear hi); (try clear ho0))))
  go_loopg [6, 7, 8] k (fun kq v6 v7 v8 w' => ∃ (x6_1 : List (S90)) (x7_1 : Bool) (x8_1 : Int), v7 = .bool x7_1 ∧ v8 = .int .i64 x8_1 ∧ Aside0 (cooperageref5_put.l0 kq t117 x6_1 x7_1 x8_1 a1_0 a1_1 a1_2 = some r) ∧ Aside0 (kq ≤ k) ∧ Aside0 (Kd.R k90 90 w' w.heap.size (fun k_ => some k_ ≠ (v6 : Value).ownBlock ∧ k_ ≠ gb116) v118 t117) ∧ Aside0 (Kd.R k90 90 w' w.heap.size (fun k_ => some k_ ≠ (v118 : Value).ownBlock ∧ k_ ≠ gb116) v6 x6_1) ∧ Aside0 (w'.heap[gb116]? = some (.cells #[.string a1_0, .string a1_1, .int .i64 a1_2] 90 (0, 0))) ∧ Aside0 (Below w.heap.size w w'))
  case atStart => exact ⟨(([] : List (S90))), (false), (0), (by first | rfl | (simp; done) | (simp [*]; done)), (by first | rfl | (simp; done) | (simp [*]; done)), H', ⟨Nat.le_refl _⟩, ⟨by (with_reducible repeat (first | apply Kd.R_alloc | apply Kd.R_drewN | apply Kd.R_drew)); exact Kd.R_mono HO119.out (fun _ hk => ⟨(by simp [Value.ownBlock]), hk.2⟩)⟩, ⟨by first | exact Kd.R_nil _ _ _ _ _ | exact Kd.N_nil _ _ _ _ _ | exact Kd.V_nil _ _ _ _ _ | exact Kd.Q_nil _ _ _ _ _ | exact Kd.S_nil _ _ _ _ _⟩, ⟨by (with_reducible repeat (first | refine blk_drewN ?_ _ | refine blk_drew ?_ | refine blk_alloc ?_ _)); exact BK116.out⟩, ⟨by repeat (first | (with_reducible first | exact HB.out | apply below_alloc | apply pw_below_drewN | apply below_drew1 | refine below_set ?_ GE116.out) | exact HB.out)⟩⟩
  case round =>
    clear H'
    try clear p2
    try clear c6
    try clear hcz5_0
    try clear hcz5_1
    try clear hcz5_2
    try clear hfz5_0
    try clear hfz5_1
    try clear hfz5_2
    obtain ⟨x6_1, x7_1, x8_1, rfl, rfl, HA, HK1, HO_5, HO_6, BK116, HB⟩ := hrel
    cases gk with
    | zero => exact absurd HA.out (by simp [cooperageref5_put.l0])
    | succ k1 =>
      have H := HA.out
      clear HA
      simp only [cooperageref5_put.l0] at H
      by_cases c7 : x8_1 < (t117.length : Int)
      · rw [if_pos c7] at H
        have c7b0 : decide (x8_1 < (t117.length : Int)) = true := decide_eq_true c7
        clear c7
        by_cases c8 : x7_1 = true
        · subst c8
          have H1 : (if 0 ≤ x8_1 then (if x6_1.length < 3518437208883 then (cooperageref5_put.l0 k1 t117 (x6_1 ++ [(⟨(rd_T90 t117 x8_1).f0, (rd_T90 t117 x8_1).f1, (rd_T90 t117 x8_1).f2⟩ : S90)]) true (wrap64 (x8_1 + 1)) a1_0 a1_1 a1_2) else (none)) else (none)) = some r := by rw [if_pos rfl] at H; exact H
          clear H
          have H := H1
          clear H1
          by_cases c9 : 0 ≤ x8_1
          · rw [if_pos c9] at H
            have c9b0 : decide (0 ≤ x8_1) = true := decide_eq_true c9
            clear c9
            by_cases c10 : x6_1.length < 3518437208883
            · rw [if_pos c10] at H
              have LMc10 := Aside0.mk c10
              clear c10
              obtain ⟨y121, hy121⟩ : ∃ y_ : List (S90), y_ = (x6_1 ++ [(⟨(rd_T90 t117 x8_1).f0, (rd_T90 t117 x8_1).f1, (rd_T90 t117 x8_1).f2⟩ : S90)]) := ⟨_, rfl⟩
              replace H : (cooperageref5_put.l0 k1 t117 y121 true (wrap64 (x8_1 + 1)) a1_0 a1_1 a1_2) = some r := by first | (rw [hy121]; with_reducible exact H) | (have H2_ := (Option.bind_some _ _).symm.trans H; rw [hy121]; with_reducible exact H2_) | (have H2_ := (Option.bind_some _ _).symm.trans H; with_reducible exact H2_) | with_reducible exact H | (rw [hy121]; exact H) | exact H
              have Ny121 := Aside0.mk hy121
              clear hy121
              have H' := Aside0.mk H
              clear H
              obtain ⟨Ao11, co11, eo11⟩ := Kd.R_slice HO_5.out
              subst eo11
              have p120 : 0 ≤ (x8_1 : Int) := of_decide_eq_true (by first | (with_reducible assumption) | assumption)
              have q120 : x8_1 < (t117.length : Int) := of_decide_eq_true (by first | (with_reducible assumption) | assumption)
              obtain ⟨ad120, e120, hx120_0, hx120_1, hx120_2⟩ := at_T90 (Kd.R_reads' HO_5.out).2.2 x8_1 p120 q120
              cases e120
              replace p120 := eq_true p120
              replace q120 := eq_true q120
              go_wp2_with (first | ((with_reducible refine gate_builtin (b := .append) (xs := #[.tmp 35, .tmp 40]) rfl ?_); at_builtin; refine Kd.R_append k90 (w0 := w) w.heap.size rfl (.tmp 35) (.tmp 40) 85 90 (.agg #[(.string ⟨#[]⟩), (.string ⟨#[]⟩), (.int .i64 0)]) 40 rfl Tryd.underlying85 info90 rfl (by decide) (by omega) u6 x6_1 (⟨(rd_T90 t117 x8_1).f0, (rd_T90 t117 x8_1).f1, (rd_T90 t117 x8_1).f2⟩ : S90) [.string ((rd_T90 t117 x8_1).f0), .string ((rd_T90 t117 x8_1).f1), .int .i64 ((rd_T90 t117 x8_1).f2)] (fun k_ => some k_ ≠ (.slice (some ad120) t117.length co11 : Value).ownBlock ∧ k_ ≠ gb116) (fun _ => False) rfl rfl ?aP (fun _ hk => hk.elim) ?aF ?aO ?aB ?aS ?aL ?_; (case aP => exact k90_mkM _ _ _ (⟨(rd_T90 t117 x8_1).f0, (rd_T90 t117 x8_1).f1, (rd_T90 t117 x8_1).f2⟩ : S90)); (case aB => exact (by repeat (first | (with_reducible first | exact HB.out | apply below_alloc | apply pw_below_drewN | apply below_drew1 | refine below_set ?_ GE116.out) | exact HB.out))); (case aF => exact (fun k_ hk => ⟨Kd.fresh' (Kd.R_lt (by (with_reducible repeat (first | apply Kd.R_alloc | apply Kd.R_drewN | apply Kd.R_drew)); exact HO_5.out)) k_ hk, Kd.freshB (g := gb116) (o := .cells #[.string a1_0, .string a1_1, .int .i64 a1_2] 90 (0, 0)) (by (with_reducible repeat (first | refine blk_drewN ?_ _ | refine blk_drew ?_ | refine blk_alloc ?_ _)); exact BK116.out) k_ hk⟩)); (case aO => exact (by (with_reducible repeat (first | apply Kd.R_alloc | apply Kd.R_drewN | apply Kd.R_drew)); exact HO_6.out)); (case aS => exact (below_size (by repeat (first | (with_reducible first | exact HB.out | apply below_alloc | apply pw_below_drewN | apply below_drew1 | refine below_set ?_ GE116.out) | exact HB.out)))); (case aL => have := LMc10.out; omega); intro v122 w12 ho hb hg hat; rw [← Ny121.out] at ho; have n0_ := Aside0.mk (Kd.R_after (ok := (fun k_ => k_ ≠ gb116)) (by (with_reducible repeat (first | apply Kd.R_alloc | apply Kd.R_drewN | apply Kd.R_drew)); exact Kd.R_mono HO_5.out (fun _ hk => ⟨hk.2, hk.1⟩)) hg hat); have n1_ := Aside0.mk (blk_grown (g := gb116) (o := .cells #[.string a1_0, .string a1_1, .int .i64 a1_2] 90 (0, 0)) (by (with_reducible repeat (first | refine blk_drewN ?_ _ | refine blk_drew ?_ | refine blk_alloc ?_ _)); exact BK116.out) hg (Kd.R_away HO_6.out (fun _ hk => hk.2))); have n2_ := Aside0.mk (hb); have n3_ := Aside0.mk (ho); clear HO_5; clear BK116; clear HB; clear HO_6; have HO_5 := n0_; have BK116 := n1_; have HB := n2_; have HO123 := n3_; clear n0_ n1_ n2_ n3_; clear ho hb hg hat))
              repeat (go_quiet (first | ((with_reducible refine gate_builtin (b := .append) (xs := #[.tmp 35, .tmp 40]) rfl ?_); at_builtin; refine Kd.R_append k90 (w0 := w) w.heap.size rfl (.tmp 35) (.tmp 40) 85 90 (.agg #[(.string ⟨#[]⟩), (.string ⟨#[]⟩), (.int .i64 0)]) 40 rfl Tryd.underlying85 info90 rfl (by decide) (by omega) u6 x6_1 (⟨(rd_T90 t117 x8_1).f0, (rd_T90 t117 x8_1).f1, (rd_T90 t117 x8_1).f2⟩ : S90) [.string ((rd_T90 t117 x8_1).f0), .string ((rd_T90 t117 x8_1).f1), .int .i64 ((rd_T90 t117 x8_1).f2)] (fun k_ => some k_ ≠ (.slice (some ad120) t117.length co11 : Value).ownBlock ∧ k_ ≠ gb116) (fun _ => False) rfl rfl ?aP (fun _ hk => hk.elim) ?aF ?aO ?aB ?aS ?aL ?_; (case aP => exact k90_mkM _ _ _ (⟨(rd_T90 t117 x8_1).f0, (rd_T90 t117 x8_1).f1, (rd_T90 t117 x8_1).f2⟩ : S90)); (case aB => exact (by repeat (first | (with_reducible first | exact HB.out | apply below_alloc | apply pw_below_drewN | apply below_drew1 | refine below_set ?_ GE116.out) | exact HB.out))); (case aF => exact (fun k_ hk => ⟨Kd.fresh' (Kd.R_lt (by (with_reducible repeat (first | apply Kd.R_alloc | apply Kd.R_drewN | apply Kd.R_drew)); exact HO_5.out)) k_ hk, Kd.freshB (g := gb116) (o := .cells #[.string a1_0, .string a1_1, .int .i64 a1_2] 90 (0, 0)) (by (with_reducible repeat (first | refine blk_drewN ?_ _ | refine blk_drew ?_ | refine blk_alloc ?_ _)); exact BK116.out) k_ hk⟩)); (case aO => exact (by (with_reducible repeat (first | apply Kd.R_alloc | apply Kd.R_drewN | apply Kd.R_drew)); exact HO_6.out)); (case aS => exact (below_size (by repeat (first | (with_reducible first | exact HB.out | apply below_alloc | apply pw_below_drewN | apply below_drew1 | refine below_set ?_ GE116.out) | exact HB.out)))); (case aL => have := LMc10.out; omega); intro v122 w12 ho hb hg hat; rw [← Ny121.out] at ho; have n0_ := Aside0.mk (Kd.R_after (ok := (fun k_ => k_ ≠ gb116)) (by (with_reducible repeat (first | apply Kd.R_alloc | apply Kd.R_drewN | apply Kd.R_drew)); exact Kd.R_mono HO_5.out (fun _ hk => ⟨hk.2, hk.1⟩)) hg hat); have n1_ := Aside0.mk (blk_grown (g := gb116) (o := .cells #[.string a1_0, .string a1_1, .int .i64 a1_2] 90 (0, 0)) (by (with_reducible repeat (first | refine blk_drewN ?_ _ | refine blk_drew ?_ | refine blk_alloc ?_ _)); exact BK116.out) hg (Kd.R_away HO_6.out (fun _ hk => hk.2))); have n2_ := Aside0.mk (hb); have n3_ := Aside0.mk (ho); clear HO_5; clear BK116; clear HB; clear HO_6; have HO_5 := n0_; have BK116 := n1_; have HB := n2_; have HO123 := n3_; clear n0_ n1_ n2_ n3_; clear ho hb hg hat)); try go_wp2_with (first | ((with_reducible refine gate_builtin (b := .append) (xs := #[.tmp 35, .tmp 40]) rfl ?_); at_builtin; refine Kd.R_append k90 (w0 := w) w.heap.size rfl (.tmp 35) (.tmp 40) 85 90 (.agg #[(.string ⟨#[]⟩), (.string ⟨#[]⟩), (.int .i64 0)]) 40 rfl Tryd.underlying85 info90 rfl (by decide) (by omega) u6 x6_1 (⟨(rd_T90 t117 x8_1).f0, (rd_T90 t117 x8_1).f1, (rd_T90 t117 x8_1).f2⟩ : S90) [.string ((rd_T90 t117 x8_1).f0), .string ((rd_T90 t117 x8_1).f1), .int .i64 ((rd_T90 t117 x8_1).f2)] (fun k_ => some k_ ≠ (.slice (some ad120) t117.length co11 : Value).ownBlock ∧ k_ ≠ gb116) (fun _ => False) rfl rfl ?aP (fun _ hk => hk.elim) ?aF ?aO ?aB ?aS ?aL ?_; (case aP => exact k90_mkM _ _ _ (⟨(rd_T90 t117 x8_1).f0, (rd_T90 t117 x8_1).f1, (rd_T90 t117 x8_1).f2⟩ : S90)); (case aB => exact (by repeat (first | (with_reducible first | exact HB.out | apply below_alloc | apply pw_below_drewN | apply below_drew1 | refine below_set ?_ GE116.out) | exact HB.out))); (case aF => exact (fun k_ hk => ⟨Kd.fresh' (Kd.R_lt (by (with_reducible repeat (first | apply Kd.R_alloc | apply Kd.R_drewN | apply Kd.R_drew)); exact HO_5.out)) k_ hk, Kd.freshB (g := gb116) (o := .cells #[.string a1_0, .string a1_1, .int .i64 a1_2] 90 (0, 0)) (by (with_reducible repeat (first | refine blk_drewN ?_ _ | refine blk_drew ?_ | refine blk_alloc ?_ _)); exact BK116.out) k_ hk⟩)); (case aO => exact (by (with_reducible repeat (first | apply Kd.R_alloc | apply Kd.R_drewN | apply Kd.R_drew)); exact HO_6.out)); (case aS => exact (below_size (by repeat (first | (with_reducible first | exact HB.out | apply below_alloc | apply pw_below_drewN | apply below_drew1 | refine below_set ?_ GE116.out) | exact HB.out)))); (case aL => have := LMc10.out; omega); intro v122 w12 ho hb hg hat; rw [← Ny121.out] at ho; have n0_ := Aside0.mk (Kd.R_after (ok := (fun k_ => k_ ≠ gb116)) (by (with_reducible repeat (first | apply Kd.R_alloc | apply Kd.R_drewN | apply Kd.R_drew)); exact Kd.R_mono HO_5.out (fun _ hk => ⟨hk.2, hk.1⟩)) hg hat); have n1_ := Aside0.mk (blk_grown (g := gb116) (o := .cells #[.string a1_0, .string a1_1, .int .i64 a1_2] 90 (0, 0)) (by (with_reducible repeat (first | refine blk_drewN ?_ _ | refine blk_drew ?_ | refine blk_alloc ?_ _)); exact BK116.out) hg (Kd.R_away HO_6.out (fun _ hk => hk.2))); have n2_ := Aside0.mk (hb); have n3_ := Aside0.mk (ho); clear HO_5; clear BK116; clear HB; clear HO_6; have HO_5 := n0_; have BK116 := n1_; have HB := n2_; have HO123 := n3_; clear n0_ n1_ n2_ n3_; clear ho hb hg hat)))
              go_roundg k1
              case measure => have := HK1.out; omega
              case rel => exact ⟨(y121), (true), (wrap64 (x8_1 + 1)), (by first | rfl | (simp; done) | (simp [*]; done)), (by first | rfl | (simp; done) | (simp [*]; done)), H', ⟨by have := HK1.out; omega⟩, ⟨by (with_reducible repeat (first | apply Kd.R_alloc | apply Kd.R_drewN | apply Kd.R_drew)); exact Kd.R_mono HO_5.out (fun _ hk => ⟨hk.2, hk.1⟩)⟩, ⟨by (with_reducible repeat (first | apply Kd.R_alloc | apply Kd.R_drewN | apply Kd.R_drew)); exact HO123.out⟩, ⟨by (with_reducible repeat (first | refine blk_drewN ?_ _ | refine blk_drew ?_ | refine blk_alloc ?_ _)); exact BK116.out⟩, ⟨by repeat (first | (with_reducible first | exact HB.out | apply below_alloc | apply pw_below_drewN | apply below_drew1 | refine below_set ?_ GE116.out) | exact HB.out)⟩⟩
            · rw [if_neg c10] at H
              exact absurd H (by simp)
          · rw [if_neg c9] at H
            exact absurd H (by simp)
        · replace c8 := Bool.eq_false_iff.mpr c8
          subst c8
          have H1 : (if 0 ≤ x8_1 then (if (Op.bytesLess a1_0.toList (((rd_T90 t117 x8_1).f0).toList)) = true then (if x6_1.length < 3518437208883 then ((some (x6_1 ++ [(⟨a1_0, a1_1, a1_2⟩ : S90)] : List (S90))).bind fun y125 => (if y125.length < 3518437208883 then (cooperageref5_put.l0 k1 t117 (y125 ++ [(⟨(rd_T90 t117 x8_1).f0, (rd_T90 t117 x8_1).f1, (rd_T90 t117 x8_1).f2⟩ : S90)]) true (wrap64 (x8_1 + 1)) a1_0 a1_1 a1_2) else (none))) else (none)) else (if x6_1.length < 3518437208883 then (cooperageref5_put.l0 k1 t117 (x6_1 ++ [(⟨(rd_T90 t117 x8_1).f0, (rd_T90 t117 x8_1).f1, (rd_T90 t117 x8_1).f2⟩ : S90)]) false (wrap64 (x8_1 + 1)) a1_0 a1_1 a1_2) else (none))) else (none)) = some r := by rw [if_neg (show ¬ (false = true) by decide)] at H; exact H
          clear H
          have H := H1
          clear H1
          by_cases c13 : 0 ≤ x8_1
          · rw [if_pos c13] at H
            have c13b0 : decide (0 ≤ x8_1) = true := decide_eq_true c13
            clear c13
            by_cases c14 : (Op.bytesLess a1_0.toList (((rd_T90 t117 x8_1).f0).toList)) = true
            · rw [if_pos c14] at H
              have c14b0 : (Op.bytesLess a1_0.toList (((rd_T90 t117 x8_1).f0).toList)) = true := c14
              clear c14
              by_cases c15 : x6_1.length < 3518437208883
              · rw [if_pos c15] at H
                have LMc15 := Aside0.mk c15
                clear c15
                obtain ⟨y125, hy125⟩ : ∃ y_ : List (S90), y_ = (x6_1 ++ [(⟨a1_0, a1_1, a1_2⟩ : S90)]) := ⟨_, rfl⟩
                replace H : (if y125.length < 3518437208883 then (cooperageref5_put.l0 k1 t117 (y125 ++ [(⟨(rd_T90 t117 x8_1).f0, (rd_T90 t117 x8_1).f1, (rd_T90 t117 x8_1).f2⟩ : S90)]) true (wrap64 (x8_1 + 1)) a1_0 a1_1 a1_2) else (none)) = some r := by first | (rw [hy125]; with_reducible exact H) | (have H2_ := (Option.bind_some _ _).symm.trans H; rw [hy125]; with_reducible exact H2_) | (have H2_ := (Option.bind_some _ _).symm.trans H; with_reducible exact H2_) | with_reducible exact H | (rw [hy125]; exact H) | exact H
                have Ny125 := Aside0.mk hy125
                clear hy125
                by_cases c16 : y125.length < 3518437208883
                · rw [if_pos c16] at H
                  have LMc16 := Aside0.mk c16
                  clear c16
                  obtain ⟨y129, hy129⟩ : ∃ y_ : List (S90), y_ = (y125 ++ [(⟨(rd_T90 t117 x8_1).f0, (rd_T90 t117 x8_1).f1, (rd_T90 t117 x8_1).f2⟩ : S90)]) := ⟨_, rfl⟩
                  replace H : (cooperageref5_put.l0 k1 t117 y129 true (wrap64 (x8_1 + 1)) a1_0 a1_1 a1_2) = some r := by first | (rw [hy129]; with_reducible exact H) | (have H2_ := (Option.bind_some _ _).symm.trans H; rw [hy129]; with_reducible exact H2_) | (have H2_ := (Option.bind_some _ _).symm.trans H; with_reducible exact H2_) | with_reducible exact H | (rw [hy129]; exact H) | exact H
                  have Ny129 := Aside0.mk hy129
                  clear hy129
                  have H' := Aside0.mk H
                  clear H
                  obtain ⟨Ao17, co17, eo17⟩ := Kd.R_slice HO_5.out
                  subst eo17
                  have hcz18_0 : wr.cell? ⟨gb116, 0, none⟩ = some (.string a1_0) := (blk_cell BK116.out 0).trans rfl
                  have hcz18_1 : wr.cell? ⟨gb116, 1, none⟩ = some (.string a1_1) := (blk_cell BK116.out 1).trans rfl
                  have hcz18_2 : wr.cell? ⟨gb116, 2, none⟩ = some (.int .i64 a1_2) := (blk_cell BK116.out 2).trans rfl
                  have hfz18_0 := blk_frozen BK116.out 0
                  have hfz18_1 := blk_frozen BK116.out 1
                  have hfz18_2 := blk_frozen BK116.out 2
                  have p124 : 0 ≤ (x8_1 : Int) := of_decide_eq_true (by first | (with_reducible assumption) | assumption)
                  have q124 : x8_1 < (t117.length : Int) := of_decide_eq_true (by first | (with_reducible assumption) | assumption)
                  obtain ⟨ad124, e124, hx124_0, hx124_1, hx124_2⟩ := at_T90 (Kd.R_reads' HO_5.out).2.2 x8_1 p124 q124
                  cases e124
                  replace p124 := eq_true p124
                  replace q124 := eq_true q124
                  go_wp2_with (first | ((with_reducible refine gate_builtin (b := .append) (xs := #[.tmp 31, .tmp 33]) rfl ?_); at_builtin; refine Kd.R_append k90 (w0 := w) w.heap.size rfl (.tmp 31) (.tmp 33) 85 90 (.agg #[(.string ⟨#[]⟩), (.string ⟨#[]⟩), (.int .i64 0)]) 40 rfl Tryd.underlying85 info90 rfl (by decide) (by omega) u6 x6_1 (⟨a1_0, a1_1, a1_2⟩ : S90) [.string a1_0, .string a1_1, .int .i64 a1_2] (fun k_ => some k_ ≠ (.slice (some ad124) t117.length co17 : Value).ownBlock ∧ k_ ≠ gb116) (fun _ => False) rfl rfl ?aP (fun _ hk => hk.elim) ?aF ?aO ?aB ?aS ?aL ?_; (case aP => exact k90_mkM _ _ _ (⟨a1_0, a1_1, a1_2⟩ : S90)); (case aB => exact (by repeat (first | (with_reducible first | exact HB.out | apply below_alloc | apply pw_below_drewN | apply below_drew1 | refine below_set ?_ GE116.out) | exact HB.out))); (case aF => exact (fun k_ hk => ⟨Kd.fresh' (Kd.R_lt (by (with_reducible repeat (first | apply Kd.R_alloc | apply Kd.R_drewN | apply Kd.R_drew)); exact HO_5.out)) k_ hk, Kd.freshB (g := gb116) (o := .cells #[.string a1_0, .string a1_1, .int .i64 a1_2] 90 (0, 0)) (by (with_reducible repeat (first | refine blk_drewN ?_ _ | refine blk_drew ?_ | refine blk_alloc ?_ _)); exact BK116.out) k_ hk⟩)); (case aO => exact (by (with_reducible repeat (first | apply Kd.R_alloc | apply Kd.R_drewN | apply Kd.R_drew)); exact HO_6.out)); (case aS => exact (below_size (by repeat (first | (with_reducible first | exact HB.out | apply below_alloc | apply pw_below_drewN | apply below_drew1 | refine below_set ?_ GE116.out) | exact HB.out)))); (case aL => have := LMc15.out; omega); intro v126 w19 ho hb hg hat; rw [← Ny125.out] at ho; have n0_ := Aside0.mk (Kd.R_after (ok := (fun k_ => k_ ≠ gb116)) (by (with_reducible repeat (first | apply Kd.R_alloc | apply Kd.R_drewN | apply Kd.R_drew)); exact Kd.R_mono HO_5.out (fun _ hk => ⟨hk.2, hk.1⟩)) hg hat); have n1_ := Aside0.mk (blk_grown (g := gb116) (o := .cells #[.string a1_0, .string a1_1, .int .i64 a1_2] 90 (0, 0)) (by (with_reducible repeat (first | refine blk_drewN ?_ _ | refine blk_drew ?_ | refine blk_alloc ?_ _)); exact BK116.out) hg (Kd.R_away HO_6.out (fun _ hk => hk.2))); have n2_ := Aside0.mk (hb); have n3_ := Aside0.mk (ho); clear HO_5; clear BK116; clear HB; clear HO_6; have HO_5 := n0_; have BK116 := n1_; have HB := n2_; have HO127 := n3_; clear n0_ n1_ n2_ n3_; clear ho hb hg hat; have p128 : 0 ≤ (x8_1 : Int) := of_decide_eq_true (by first | (with_reducible assumption) | assumption); have q128 : x8_1 < (t117.length : Int) := of_decide_eq_true (by first | (with_reducible assumption) | assumption); obtain ⟨ad128, e128, hx128_0, hx128_1, hx128_2⟩ := at_T90 (Kd.R_reads' HO_5.out).2.2 x8_1 p128 q128; obtain rfl : ad124 = ad128 := (by injection e128); replace p128 := eq_true p128; replace q128 := eq_true q128) | ((with_reducible refine gate_builtin (b := .append) (xs := #[.tmp 35, .tmp 40]) rfl ?_); at_builtin; refine Kd.R_append k90 (w0 := w) w.heap.size rfl (.tmp 35) (.tmp 40) 85 90 (.agg #[(.string ⟨#[]⟩), (.string ⟨#[]⟩), (.int .i64 0)]) 40 rfl Tryd.underlying85 info90 rfl (by decide) (by omega) v126 y125 (⟨(rd_T90 t117 x8_1).f0, (rd_T90 t117 x8_1).f1, (rd_T90 t117 x8_1).f2⟩ : S90) [.string ((rd_T90 t117 x8_1).f0), .string ((rd_T90 t117 x8_1).f1), .int .i64 ((rd_T90 t117 x8_1).f2)] (fun k_ => some k_ ≠ (.slice (some ad124) t117.length co17 : Value).ownBlock ∧ k_ ≠ gb116) (fun _ => False) rfl rfl ?aP (fun _ hk => hk.elim) ?aF ?aO ?aB ?aS ?aL ?_; (case aP => exact k90_mkM _ _ _ (⟨(rd_T90 t117 x8_1).f0, (rd_T90 t117 x8_1).f1, (rd_T90 t117 x8_1).f2⟩ : S90)); (case aB => exact (by repeat (first | (with_reducible first | exact HB.out | apply below_alloc | apply pw_below_drewN | apply below_drew1 | refine below_set ?_ GE116.out) | exact HB.out))); (case aF => exact (fun k_ hk => ⟨Kd.fresh' (Kd.R_lt (by (with_reducible repeat (first | apply Kd.R_alloc | apply Kd.R_drewN | apply Kd.R_drew)); exact HO_5.out)) k_ hk, Kd.freshB (g := gb116) (o := .cells #[.string a1_0, .string a1_1, .int .i64 a1_2] 90 (0, 0)) (by (with_reducible repeat (first | refine blk_drewN ?_ _ | refine blk_drew ?_ | refine blk_alloc ?_ _)); exact BK116.out) k_ hk⟩)); (case aO => exact (by (with_reducible repeat (first | apply Kd.R_alloc | apply Kd.R_drewN | apply Kd.R_drew)); exact HO127.out)); (case aS => exact (below_size (by repeat (first | (with_reducible first | exact HB.out | apply below_alloc | apply pw_below_drewN | apply below_drew1 | refine below_set ?_ GE116.out) | exact HB.out)))); (case aL => have := LMc16.out; omega); intro v130 w20 ho hb hg hat; rw [← Ny129.out] at ho; have n0_ := Aside0.mk (Kd.R_after (ok := (fun k_ => k_ ≠ gb116)) (by (with_reducible repeat (first | apply Kd.R_alloc | apply Kd.R_drewN | apply Kd.R_drew)); exact HO_5.out) hg hat); have n1_ := Aside0.mk (blk_grown (g := gb116) (o := .cells #[.string a1_0, .string a1_1, .int .i64 a1_2] 90 (0, 0)) (by (with_reducible repeat (first | refine blk_drewN ?_ _ | refine blk_drew ?_ | refine blk_alloc ?_ _)); exact BK116.out) hg (Kd.R_away HO127.out (fun _ hk => hk.2))); have n2_ := Aside0.mk (hb); have n3_ := Aside0.mk (ho); clear HO_5; clear BK116; clear HB; clear HO127; have HO_5 := n0_; have BK116 := n1_; have HB := n2_; have HO131 := n3_; clear n0_ n1_ n2_ n3_; clear ho hb hg hat))
                  repeat (go_quiet (first | ((with_reducible refine gate_builtin (b := .append) (xs := #[.tmp 31, .tmp 33]) rfl ?_); at_builtin; refine Kd.R_append k90 (w0 := w) w.heap.size rfl (.tmp 31) (.tmp 33) 85 90 (.agg #[(.string ⟨#[]⟩), (.string ⟨#[]⟩), (.int .i64 0)]) 40 rfl Tryd.underlying85 info90 rfl (by decide) (by omega) u6 x6_1 (⟨a1_0, a1_1, a1_2⟩ : S90) [.string a1_0, .string a1_1, .int .i64 a1_2] (fun k_ => some k_ ≠ (.slice (some ad124) t117.length co17 : Value).ownBlock ∧ k_ ≠ gb116) (fun _ => False) rfl rfl ?aP (fun _ hk => hk.elim) ?aF ?aO ?aB ?aS ?aL ?_; (case aP => exact k90_mkM _ _ _ (⟨a1_0, a1_1, a1_2⟩ : S90)); (case aB => exact (by repeat (first | (with_reducible first | exact HB.out | apply below_alloc | apply pw_below_drewN | apply below_drew1 | refine below_set ?_ GE116.out) | exact HB.out))); (case aF => exact (fun k_ hk => ⟨Kd.fresh' (Kd.R_lt (by (with_reducible repeat (first | apply Kd.R_alloc | apply Kd.R_drewN | apply Kd.R_drew)); exact HO_5.out)) k_ hk, Kd.freshB (g := gb116) (o := .cells #[.string a1_0, .string a1_1, .int .i64 a1_2] 90 (0, 0)) (by (with_reducible repeat (first | refine blk_drewN ?_ _ | refine blk_drew ?_ | refine blk_alloc ?_ _)); exact BK116.out) k_ hk⟩)); (case aO => exact (by (with_reducible repeat (first | apply Kd.R_alloc | apply Kd.R_drewN | apply Kd.R_drew)); exact HO_6.out)); (case aS => exact (below_size (by repeat (first | (with_reducible first | exact HB.out | apply below_alloc | apply pw_below_drewN | apply below_drew1 | refine below_set ?_ GE116.out) | exact HB.out)))); (case aL => have := LMc15.out; omega); intro v126 w19 ho hb hg hat; rw [← Ny125.out] at ho; have n0_ := Aside0.mk (Kd.R_after (ok := (fun k_ => k_ ≠ gb116)) (by (with_reducible repeat (first | apply Kd.R_alloc | apply Kd.R_drewN | apply Kd.R_drew)); exact Kd.R_mono HO_5.out (fun _ hk => ⟨hk.2, hk.1⟩)) hg hat); have n1_ := Aside0.mk (blk_grown (g := gb116) (o := .cells #[.string a1_0, .string a1_1, .int .i64 a1_2] 90 (0, 0)) (by (with_reducible repeat (first | refine blk_drewN ?_ _ | refine blk_drew ?_ | refine blk_alloc ?_ _)); exact BK116.out) hg (Kd.R_away HO_6.out (fun _ hk => hk.2))); have n2_ := Aside0.mk (hb); have n3_ := Aside0.mk (ho); clear HO_5; clear BK116; clear HB; clear HO_6; have HO_5 := n0_; have BK116 := n1_; have HB := n2_; have HO127 := n3_; clear n0_ n1_ n2_ n3_; clear ho hb hg hat; have p128 : 0 ≤ (x8_1 : Int) := of_decide_eq_true (by first | (with_reducible assumption) | assumption); have q128 : x8_1 < (t117.length : Int) := of_decide_eq_true (by first | (with_reducible assumption) | assumption); obtain ⟨ad128, e128, hx128_0, hx128_1, hx128_2⟩ := at_T90 (Kd.R_reads' HO_5.out).2.2 x8_1 p128 q128; obtain rfl : ad124 = ad128 := (by injection e128); replace p128 := eq_true p128; replace q128 := eq_true q128) | ((with_reducible refine gate_builtin (b := .append) (xs := #[.tmp 35, .tmp 40]) rfl ?_); at_builtin; refine Kd.R_append k90 (w0 := w) w.heap.size rfl (.tmp 35) (.tmp 40) 85 90 (.agg #[(.string ⟨#[]⟩), (.string ⟨#[]⟩), (.int .i64 0)]) 40 rfl Tryd.underlying85 info90 rfl (by decide) (by omega) v126 y125 (⟨(rd_T90 t117 x8_1).f0, (rd_T90 t117 x8_1).f1, (rd_T90 t117 x8_1).f2⟩ : S90) [.string ((rd_T90 t117 x8_1).f0), .string ((rd_T90 t117 x8_1).f1), .int .i64 ((rd_T90 t117 x8_1).f2)] (fun k_ => some k_ ≠ (.slice (some ad124) t117.length co17 : Value).ownBlock ∧ k_ ≠ gb116) (fun _ => False) rfl rfl ?aP (fun _ hk => hk.elim) ?aF ?aO ?aB ?aS ?aL ?_; (case aP => exact k90_mkM _ _ _ (⟨(rd_T90 t117 x8_1).f0, (rd_T90 t117 x8_1).f1, (rd_T90 t117 x8_1).f2⟩ : S90)); (case aB => exact (by repeat (first | (with_reducible first | exact HB.out | apply below_alloc | apply pw_below_drewN | apply below_drew1 | refine below_set ?_ GE116.out) | exact HB.out))); (case aF => exact (fun k_ hk => ⟨Kd.fresh' (Kd.R_lt (by (with_reducible repeat (first | apply Kd.R_alloc | apply Kd.R_drewN | apply Kd.R_drew)); exact HO_5.out)) k_ hk, Kd.freshB (g := gb116) (o := .cells #[.string a1_0, .string a1_1, .int .i64 a1_2] 90 (0, 0)) (by (with_reducible repeat (first | refine blk_drewN ?_ _ | refine blk_drew ?_ | refine blk_alloc ?_ _)); exact BK116.out) k_ hk⟩)); (case aO => exact (by (with_reducible repeat (first | apply Kd.R_alloc | apply Kd.R_drewN | apply Kd.R_drew)); exact HO127.out)); (case aS => exact (below_size (by repeat (first | (with_reducible first | exact HB.out | apply below_alloc | apply pw_below_drewN | apply below_drew1 | refine below_set ?_ GE116.out) | exact HB.out)))); (case aL => have := LMc16.out; omega); intro v130 w20 ho hb hg hat; rw [← Ny129.out] at ho; have n0_ := Aside0.mk (Kd.R_after (ok := (fun k_ => k_ ≠ gb116)) (by (with_reducible repeat (first | apply Kd.R_alloc | apply Kd.R_drewN | apply Kd.R_drew)); exact HO_5.out) hg hat); have n1_ := Aside0.mk (blk_grown (g := gb116) (o := .cells #[.string a1_0, .string a1_1, .int .i64 a1_2] 90 (0, 0)) (by (with_reducible repeat (first | refine blk_drewN ?_ _ | refine blk_drew ?_ | refine blk_alloc ?_ _)); exact BK116.out) hg (Kd.R_away HO127.out (fun _ hk => hk.2))); have n2_ := Aside0.mk (hb); have n3_ := Aside0.mk (ho); clear HO_5; clear BK116; clear HB; clear HO127; have HO_5 := n0_; have BK116 := n1_; have HB := n2_; have HO131 := n3_; clear n0_ n1_ n2_ n3_; clear ho hb hg hat)); try go_wp2_with (first | ((with_reducible refine gate_builtin (b := .append) (xs := #[.tmp 31, .tmp 33]) rfl ?_); at_builtin; refine Kd.R_append k90 (w0 := w) w.heap.size rfl (.tmp 31) (.tmp 33) 85 90 (.agg #[(.string ⟨#[]⟩), (.string ⟨#[]⟩), (.int .i64 0)]) 40 rfl Tryd.underlying85 info90 rfl (by decide) (by omega) u6 x6_1 (⟨a1_0, a1_1, a1_2⟩ : S90) [.string a1_0, .string a1_1, .int .i64 a1_2] (fun k_ => some k_ ≠ (.slice (some ad124) t117.length co17 : Value).ownBlock ∧ k_ ≠ gb116) (fun _ => False) rfl rfl ?aP (fun _ hk => hk.elim) ?aF ?aO ?aB ?aS ?aL ?_; (case aP => exact k90_mkM _ _ _ (⟨a1_0, a1_1, a1_2⟩ : S90)); (case aB => exact (by repeat (first | (with_reducible first | exact HB.out | apply below_alloc | apply pw_below_drewN | apply below_drew1 | refine below_set ?_ GE116.out) | exact HB.out))); (case aF => exact (fun k_ hk => ⟨Kd.fresh' (Kd.R_lt (by (with_reducible repeat (first | apply Kd.R_alloc | apply Kd.R_drewN | apply Kd.R_drew)); exact HO_5.out)) k_ hk, Kd.freshB (g := gb116) (o := .cells #[.string a1_0, .string a1_1, .int .i64 a1_2] 90 (0, 0)) (by (with_reducible repeat (first | refine blk_drewN ?_ _ | refine blk_drew ?_ | refine blk_alloc ?_ _)); exact BK116.out) k_ hk⟩)); (case aO => exact (by (with_reducible repeat (first | apply Kd.R_alloc | apply Kd.R_drewN | apply Kd.R_drew)); exact HO_6.out)); (case aS => exact (below_size (by repeat (first | (with_reducible first | exact HB.out | apply below_alloc | apply pw_below_drewN | apply below_drew1 | refine below_set ?_ GE116.out) | exact HB.out)))); (case aL => have := LMc15.out; omega); intro v126 w19 ho hb hg hat; rw [← Ny125.out] at ho; have n0_ := Aside0.mk (Kd.R_after (ok := (fun k_ => k_ ≠ gb116)) (by (with_reducible repeat (first | apply Kd.R_alloc | apply Kd.R_drewN | apply Kd.R_drew)); exact Kd.R_mono HO_5.out (fun _ hk => ⟨hk.2, hk.1⟩)) hg hat); have n1_ := Aside0.mk (blk_grown (g := gb116) (o := .cells #[.string a1_0, .string a1_1, .int .i64 a1_2] 90 (0, 0)) (by (with_reducible repeat (first | refine blk_drewN ?_ _ | refine blk_drew ?_ | refine blk_alloc ?_ _)); exact BK116.out) hg (Kd.R_away HO_6.out (fun _ hk => hk.2))); have n2_ := Aside0.mk (hb); have n3_ := Aside0.mk (ho); clear HO_5; clear BK116; clear HB; clear HO_6; have HO_5 := n0_; have BK116 := n1_; have HB := n2_; have HO127 := n3_; clear n0_ n1_ n2_ n3_; clear ho hb hg hat; have p128 : 0 ≤ (x8_1 : Int) := of_decide_eq_true (by first | (with_reducible assumption) | assumption); have q128 : x8_1 < (t117.length : Int) := of_decide_eq_true (by first | (with_reducible assumption) | assumption); obtain ⟨ad128, e128, hx128_0, hx128_1, hx128_2⟩ := at_T90 (Kd.R_reads' HO_5.out).2.2 x8_1 p128 q128; obtain rfl : ad124 = ad128 := (by injection e128); replace p128 := eq_true p128; replace q128 := eq_true q128) | ((with_reducible refine gate_builtin (b := .append) (xs := #[.tmp 35, .tmp 40]) rfl ?_); at_builtin; refine Kd.R_append k90 (w0 := w) w.heap.size rfl (.tmp 35) (.tmp 40) 85 90 (.agg #[(.string ⟨#[]⟩), (.string ⟨#[]⟩), (.int .i64 0)]) 40 rfl Tryd.underlying85 info90 rfl (by decide) (by omega) v126 y125 (⟨(rd_T90 t117 x8_1).f0, (rd_T90 t117 x8_1).f1, (rd_T90 t117 x8_1).f2⟩ : S90) [.string ((rd_T90 t117 x8_1).f0), .string ((rd_T90 t117 x8_1).f1), .int .i64 ((rd_T90 t117 x8_1).f2)] (fun k_ => some k_ ≠ (.slice (some ad124) t117.length co17 : Value).ownBlock ∧ k_ ≠ gb116) (fun _ => False) rfl rfl ?aP (fun _ hk => hk.elim) ?aF ?aO ?aB ?aS ?aL ?_; (case aP => exact k90_mkM _ _ _ (⟨(rd_T90 t117 x8_1).f0, (rd_T90 t117 x8_1).f1, (rd_T90 t117 x8_1).f2⟩ : S90)); (case aB => exact (by repeat (first | (with_reducible first | exact HB.out | apply below_alloc | apply pw_below_drewN | apply below_drew1 | refine below_set ?_ GE116.out) | exact HB.out))); (case aF => exact (fun k_ hk => ⟨Kd.fresh' (Kd.R_lt (by (with_reducible repeat (first | apply Kd.R_alloc | apply Kd.R_drewN | apply Kd.R_drew)); exact HO_5.out)) k_ hk, Kd.freshB (g := gb116) (o := .cells #[.string a1_0, .string a1_1, .int .i64 a1_2] 90 (0, 0)) (by (with_reducible repeat (first | refine blk_drewN ?_ _ | refine blk_drew ?_ | refine blk_alloc ?_ _)); exact BK116.out) k_ hk⟩)); (case aO => exact (by (with_reducible repeat (first | apply Kd.R_alloc | apply Kd.R_drewN | apply Kd.R_drew)); exact HO127.out)); (case aS => exact (below_size (by repeat (first | (with_reducible first | exact HB.out | apply below_alloc | apply pw_below_drewN | apply below_drew1 | refine below_set ?_ GE116.out) | exact HB.out)))); (case aL => have := LMc16.out; omega); intro v130 w20 ho hb hg hat; rw [← Ny129.out] at ho; have n0_ := Aside0.mk (Kd.R_after (ok := (fun k_ => k_ ≠ gb116)) (by (with_reducible repeat (first | apply Kd.R_alloc | apply Kd.R_drewN | apply Kd.R_drew)); exact HO_5.out) hg hat); have n1_ := Aside0.mk (blk_grown (g := gb116) (o := .cells #[.string a1_0, .string a1_1, .int .i64 a1_2] 90 (0, 0)) (by (with_reducible repeat (first | refine blk_drewN ?_ _ | refine blk_drew ?_ | refine blk_alloc ?_ _)); exact BK116.out) hg (Kd.R_away HO127.out (fun _ hk => hk.2))); have n2_ := Aside0.mk (hb); have n3_ := Aside0.mk (ho); clear HO_5; clear BK116; clear HB; clear HO127; have HO_5 := n0_; have BK116 := n1_; have HB := n2_; have HO131 := n3_; clear n0_ n1_ n2_ n3_; clear ho hb hg hat)))
                  go_roundg k1
                  case measure => have := HK1.out; omega
                  case rel => exact ⟨(y129), (true), (wrap64 (x8_1 + 1)), (by first | rfl | (simp; done) | (simp [*]; done)), (by first | rfl | (simp; done) | (simp [*]; done)), H', ⟨by have := HK1.out; omega⟩, ⟨by (with_reducible repeat (first | apply Kd.R_alloc | apply Kd.R_drewN | apply Kd.R_drew)); exact Kd.R_mono HO_5.out (fun _ hk => ⟨hk.2, hk.1⟩)⟩, ⟨by (with_reducible repeat (first | apply Kd.R_alloc | apply Kd.R_drewN | apply Kd.R_drew)); exact HO131.out⟩, ⟨by (with_reducible repeat (first | refine blk_drewN ?_ _ | refine blk_drew ?_ | refine blk_alloc ?_ _)); exact BK116.out⟩, ⟨by repeat (first | (with_reducible first | exact HB.out | apply below_alloc | apply pw_below_drewN | apply below_drew1 | refine below_set ?_ GE116.out) | exact HB.out)⟩⟩
                · rw [if_neg c16] at H
                  exact absurd H (by simp)
              · rw [if_neg c15] at H
                exact absurd H (by simp)
            · rw [if_neg c14] at H
              have c14b0 : (Op.bytesLess a1_0.toList (((rd_T90 t117 x8_1).f0).toList)) = false := by simpa using c14
              clear c14
              by_cases c21 : x6_1.length < 3518437208883
              · rw [if_pos c21] at H
                have LMc21 := Aside0.mk c21
                clear c21
                obtain ⟨y133, hy133⟩ : ∃ y_ : List (S90), y_ = (x6_1 ++ [(⟨(rd_T90 t117 x8_1).f0, (rd_T90 t117 x8_1).f1, (rd_T90 t117 x8_1).f2⟩ : S90)]) := ⟨_, rfl⟩
                replace H : (cooperageref5_put.l0 k1 t117 y133 false (wrap64 (x8_1 + 1)) a1_0 a1_1 a1_2) = some r := by first | (rw [hy133]; with_reducible exact H) | (have H2_ := (Option.bind_some _ _).symm.trans H; rw [hy133]; with_reducible exact H2_) | (have H2_ := (Option.bind_some _ _).symm.trans H; with_reducible exact H2_) | with_reducible exact H | (rw [hy133]; exact H) | exact H
                have Ny133 := Aside0.mk hy133
                clear hy133
                have H' := Aside0.mk H
                clear H
                obtain ⟨Ao22, co22, eo22⟩ := Kd.R_slice HO_5.out
                subst eo22
                have hcz23_0 : wr.cell? ⟨gb116, 0, none⟩ = some (.string a1_0) := (blk_cell BK116.out 0).trans rfl
                have hcz23_1 : wr.cell? ⟨gb116, 1, none⟩ = some (.string a1_1) := (blk_cell BK116.out 1).trans rfl
                have hcz23_2 : wr.cell? ⟨gb116, 2, none⟩ = some (.int .i64 a1_2) := (blk_cell BK116.out 2).trans rfl
                have hfz23_0 := blk_frozen BK116.out 0
                have hfz23_1 := blk_frozen BK116.out 1
                have hfz23_2 := blk_frozen BK116.out 2
                have p124 : 0 ≤ (x8_1 : Int) := of_decide_eq_true (by first | (with_reducible assumption) | assumption)
                have q124 : x8_1 < (t117.length : Int) := of_decide_eq_true (by first | (with_reducible assumption) | assumption)
                obtain ⟨ad124, e124, hx124_0, hx124_1, hx124_2⟩ := at_T90 (Kd.R_reads' HO_5.out).2.2 x8_1 p124 q124
                cases e124
                replace p124 := eq_true p124
                replace q124 := eq_true q124
                have p132 : 0 ≤ (x8_1 : Int) := of_decide_eq_true (by first | (with_reducible assumption) | assumption)
                have q132 : x8_1 < (t117.length : Int) := of_decide_eq_true (by first | (with_reducible assumption) | assumption)
                obtain ⟨ad132, e132, hx132_0, hx132_1, hx132_2⟩ := at_T90 (Kd.R_reads' HO_5.out).2.2 x8_1 p132 q132
                obtain rfl : ad124 = ad132 := (by injection e132)
                replace p132 := eq_true p132
                replace q132 := eq_true q132
                go_wp2_with (first | ((with_reducible refine gate_builtin (b := .append) (xs := #[.tmp 35, .tmp 40]) rfl ?_); at_builtin; refine Kd.R_append k90 (w0 := w) w.heap.size rfl (.tmp 35) (.tmp 40) 85 90 (.agg #[(.string ⟨#[]⟩), (.string ⟨#[]⟩), (.int .i64 0)]) 40 rfl Tryd.underlying85 info90 rfl (by decide) (by omega) u6 x6_1 (⟨(rd_T90 t117 x8_1).f0, (rd_T90 t117 x8_1).f1, (rd_T90 t117 x8_1).f2⟩ : S90) [.string ((rd_T90 t117 x8_1).f0), .string ((rd_T90 t117 x8_1).f1), .int .i64 ((rd_T90 t117 x8_1).f2)] (fun k_ => some k_ ≠ (.slice (some ad124) t117.length co22 : Value).ownBlock ∧ k_ ≠ gb116) (fun _ => False) rfl rfl ?aP (fun _ hk => hk.elim) ?aF ?aO ?aB ?aS ?aL ?_; (case aP => exact k90_mkM _ _ _ (⟨(rd_T90 t117 x8_1).f0, (rd_T90 t117 x8_1).f1, (rd_T90 t117 x8_1).f2⟩ : S90)); (case aB => exact (by repeat (first | (with_reducible first | exact HB.out | apply below_alloc | apply pw_below_drewN | apply below_drew1 | refine below_set ?_ GE116.out) | exact HB.out))); (case aF => exact (fun k_ hk => ⟨Kd.fresh' (Kd.R_lt (by (with_reducible repeat (first | apply Kd.R_alloc | apply Kd.R_drewN | apply Kd.R_drew)); exact HO_5.out)) k_ hk, Kd.freshB (g := gb116) (o := .cells #[.string a1_0, .string a1_1, .int .i64 a1_2] 90 (0, 0)) (by (with_reducible repeat (first | refine blk_drewN ?_ _ | refine blk_drew ?_ | refine blk_alloc ?_ _)); exact BK116.out) k_ hk⟩)); (case aO => exact (by (with_reducible repeat (first | apply Kd.R_alloc | apply Kd.R_drewN | apply Kd.R_drew)); exact HO_6.out)); (case aS => exact (below_size (by repeat (first | (with_reducible first | exact HB.out | apply below_alloc | apply pw_below_drewN | apply below_drew1 | refine below_set ?_ GE116.out) | exact HB.out)))); (case aL => have := LMc21.out; omega); intro v134 w24 ho hb hg hat; rw [← Ny133.out] at ho; have n0_ := Aside0.mk (Kd.R_after (ok := (fun k_ => k_ ≠ gb116)) (by (with_reducible repeat (first | apply Kd.R_alloc | apply Kd.R_drewN | apply Kd.R_drew)); exact Kd.R_mono HO_5.out (fun _ hk => ⟨hk.2, hk.1⟩)) hg hat); have n1_ := Aside0.mk (blk_grown (g := gb116) (o := .cells #[.string a1_0, .string a1_1, .int .i64 a1_2] 90 (0, 0)) (by (with_reducible repeat (first | refine blk_drewN ?_ _ | refine blk_drew ?_ | refine blk_alloc ?_ _)); exact BK116.out) hg (Kd.R_away HO_6.out (fun _ hk => hk.2))); have n2_ := Aside0.mk (hb); have n3_ := Aside0.mk (ho); clear HO_5; clear BK116; clear HB; clear HO_6; have HO_5 := n0_; have BK116 := n1_; have HB := n2_; have HO135 := n3_; clear n0_ n1_ n2_ n3_; clear ho hb hg hat))
                repeat (go_quiet (first | ((with_reducible refine gate_builtin (b := .append) (xs := #[.tmp 35, .tmp 40]) rfl ?_); at_builtin; refine Kd.R_append k90 (w0 := w) w.heap.size rfl (.tmp 35) (.tmp 40) 85 90 (.agg #[(.string ⟨#[]⟩), (.string ⟨#[]⟩), (.int .i64 0)]) 40 rfl Tryd.underlying85 info90 rfl (by decide) (by omega) u6 x6_1 (⟨(rd_T90 t117 x8_1).f0, (rd_T90 t117 x8_1).f1, (rd_T90 t117 x8_1).f2⟩ : S90) [.string ((rd_T90 t117 x8_1).f0), .string ((rd_T90 t117 x8_1).f1), .int .i64 ((rd_T90 t117 x8_1).f2)] (fun k_ => some k_ ≠ (.slice (some ad124) t117.length co22 : Value).ownBlock ∧ k_ ≠ gb116) (fun _ => False) rfl rfl ?aP (fun _ hk => hk.elim) ?aF ?aO ?aB ?aS ?aL ?_; (case aP => exact k90_mkM _ _ _ (⟨(rd_T90 t117 x8_1).f0, (rd_T90 t117 x8_1).f1, (rd_T90 t117 x8_1).f2⟩ : S90)); (case aB => exact (by repeat (first | (with_reducible first | exact HB.out | apply below_alloc | apply pw_below_drewN | apply below_drew1 | refine below_set ?_ GE116.out) | exact HB.out))); (case aF => exact (fun k_ hk => ⟨Kd.fresh' (Kd.R_lt (by (with_reducible repeat (first | apply Kd.R_alloc | apply Kd.R_drewN | apply Kd.R_drew)); exact HO_5.out)) k_ hk, Kd.freshB (g := gb116) (o := .cells #[.string a1_0, .string a1_1, .int .i64 a1_2] 90 (0, 0)) (by (with_reducible repeat (first | refine blk_drewN ?_ _ | refine blk_drew ?_ | refine blk_alloc ?_ _)); exact BK116.out) k_ hk⟩)); (case aO => exact (by (with_reducible repeat (first | apply Kd.R_alloc | apply Kd.R_drewN | apply Kd.R_drew)); exact HO_6.out)); (case aS => exact (below_size (by repeat (first | (with_reducible first | exact HB.out | apply below_alloc | apply pw_below_drewN | apply below_drew1 | refine below_set ?_ GE116.out) | exact HB.out)))); (case aL => have := LMc21.out; omega); intro v134 w24 ho hb hg hat; rw [← Ny133.out] at ho; have n0_ := Aside0.mk (Kd.R_after (ok := (fun k_ => k_ ≠ gb116)) (by (with_reducible repeat (first | apply Kd.R_alloc | apply Kd.R_drewN | apply Kd.R_drew)); exact Kd.R_mono HO_5.out (fun _ hk => ⟨hk.2, hk.1⟩)) hg hat); have n1_ := Aside0.mk (blk_grown (g := gb116) (o := .cells #[.string a1_0, .string a1_1, .int .i64 a1_2] 90 (0, 0)) (by (with_reducible repeat (first | refine blk_drewN ?_ _ | refine blk_drew ?_ | refine blk_alloc ?_ _)); exact BK116.out) hg (Kd.R_away HO_6.out (fun _ hk => hk.2))); have n2_ := Aside0.mk (hb); have n3_ := Aside0.mk (ho); clear HO_5; clear BK116; clear HB; clear HO_6; have HO_5 := n0_; have BK116 := n1_; have HB := n2_; have HO135 := n3_; clear n0_ n1_ n2_ n3_; clear ho hb hg hat)); try go_wp2_with (first | ((with_reducible refine gate_builtin (b := .append) (xs := #[.tmp 35, .tmp 40]) rfl ?_); at_builtin; refine Kd.R_append k90 (w0 := w) w.heap.size rfl (.tmp 35) (.tmp 40) 85 90 (.agg #[(.string ⟨#[]⟩), (.string ⟨#[]⟩), (.int .i64 0)]) 40 rfl Tryd.underlying85 info90 rfl (by decide) (by omega) u6 x6_1 (⟨(rd_T90 t117 x8_1).f0, (rd_T90 t117 x8_1).f1, (rd_T90 t117 x8_1).f2⟩ : S90) [.string ((rd_T90 t117 x8_1).f0), .string ((rd_T90 t117 x8_1).f1), .int .i64 ((rd_T90 t117 x8_1).f2)] (fun k_ => some k_ ≠ (.slice (some ad124) t117.length co22 : Value).ownBlock ∧ k_ ≠ gb116) (fun _ => False) rfl rfl ?aP (fun _ hk => hk.elim) ?aF ?aO ?aB ?aS ?aL ?_; (case aP => exact k90_mkM _ _ _ (⟨(rd_T90 t117 x8_1).f0, (rd_T90 t117 x8_1).f1, (rd_T90 t117 x8_1).f2⟩ : S90)); (case aB => exact (by repeat (first | (with_reducible first | exact HB.out | apply below_alloc | apply pw_below_drewN | apply below_drew1 | refine below_set ?_ GE116.out) | exact HB.out))); (case aF => exact (fun k_ hk => ⟨Kd.fresh' (Kd.R_lt (by (with_reducible repeat (first | apply Kd.R_alloc | apply Kd.R_drewN | apply Kd.R_drew)); exact HO_5.out)) k_ hk, Kd.freshB (g := gb116) (o := .cells #[.string a1_0, .string a1_1, .int .i64 a1_2] 90 (0, 0)) (by (with_reducible repeat (first | refine blk_drewN ?_ _ | refine blk_drew ?_ | refine blk_alloc ?_ _)); exact BK116.out) k_ hk⟩)); (case aO => exact (by (with_reducible repeat (first | apply Kd.R_alloc | apply Kd.R_drewN | apply Kd.R_drew)); exact HO_6.out)); (case aS => exact (below_size (by repeat (first | (with_reducible first | exact HB.out | apply below_alloc | apply pw_below_drewN | apply below_drew1 | refine below_set ?_ GE116.out) | exact HB.out)))); (case aL => have := LMc21.out; omega); intro v134 w24 ho hb hg hat; rw [← Ny133.out] at ho; have n0_ := Aside0.mk (Kd.R_after (ok := (fun k_ => k_ ≠ gb116)) (by (with_reducible repeat (first | apply Kd.R_alloc | apply Kd.R_drewN | apply Kd.R_drew)); exact Kd.R_mono HO_5.out (fun _ hk => ⟨hk.2, hk.1⟩)) hg hat); have n1_ := Aside0.mk (blk_grown (g := gb116) (o := .cells #[.string a1_0, .string a1_1, .int .i64 a1_2] 90 (0, 0)) (by (with_reducible repeat (first | refine blk_drewN ?_ _ | refine blk_drew ?_ | refine blk_alloc ?_ _)); exact BK116.out) hg (Kd.R_away HO_6.out (fun _ hk => hk.2))); have n2_ := Aside0.mk (hb); have n3_ := Aside0.mk (ho); clear HO_5; clear BK116; clear HB; clear HO_6; have HO_5 := n0_; have BK116 := n1_; have HB := n2_; have HO135 := n3_; clear n0_ n1_ n2_ n3_; clear ho hb hg hat)))
                go_roundg k1
                case measure => have := HK1.out; omega
                case rel => exact ⟨(y133), (false), (wrap64 (x8_1 + 1)), (by first | rfl | (simp; done) | (simp [*]; done)), (by first | rfl | (simp; done) | (simp [*]; done)), H', ⟨by have := HK1.out; omega⟩, ⟨by (with_reducible repeat (first | apply Kd.R_alloc | apply Kd.R_drewN | apply Kd.R_drew)); exact Kd.R_mono HO_5.out (fun _ hk => ⟨hk.2, hk.1⟩)⟩, ⟨by (with_reducible repeat (first | apply Kd.R_alloc | apply Kd.R_drewN | apply Kd.R_drew)); exact HO135.out⟩, ⟨by (with_reducible repeat (first | refine blk_drewN ?_ _ | refine blk_drew ?_ | refine blk_alloc ?_ _)); exact BK116.out⟩, ⟨by repeat (first | (with_reducible first | exact HB.out | apply below_alloc | apply pw_below_drewN | apply below_drew1 | refine below_set ?_ GE116.out) | exact HB.out)⟩⟩
              · rw [if_neg c21] at H
                exact absurd H (by simp)
          · rw [if_neg c13] at H
            exact absurd H (by simp)
      · rw [if_neg c7] at H
        have c7b0 : decide (x8_1 < (t117.length : Int)) = false := decide_eq_false c7
        clear c7
        by_cases c25 : x7_1 = true
        · subst c25
          have H1 : (some x6_1) = some r := by rw [if_pos rfl] at H; exact H
          clear H
          have H := H1
          clear H1
          obtain rfl := Option.some.inj H
          obtain ⟨Ao26, co26, eo26⟩ := Kd.R_slice HO_5.out
          subst eo26
          go_wp2
          repeat (go_quiet (fail); try go_wp2)
          go_ret
          exact ⟨_, by first | rfl | (simp [errW_none, errW_some] <;> rfl) | (simp [*, errW_none, errW_some] <;> rfl), by (with_reducible repeat (first | apply Kd.R_alloc | apply Kd.R_drewN | apply Kd.R_drew)); exact Kd.R_mono HO_6.out (fun _ hk => trivial), by repeat (first | (with_reducible first | exact HB.out | apply below_alloc | apply pw_below_drewN | apply below_drew1 | refine below_set ?_ GE116.out) | exact HB.out)⟩
        · replace c25 := Bool.eq_false_iff.mpr c25
          subst c25
          have H1 : (if x6_1.length < 3518437208883 then (some (x6_1 ++ [(⟨a1_0, a1_1, a1_2⟩ : S90)])) else (none)) = some r := by rw [if_neg (show ¬ (false = true) by decide)] at H; exact H
          clear H
          have H := H1
          clear H1
          by_cases c27 : x6_1.length < 3518437208883
          · rw [if_pos c27] at H
            have LMc27 := Aside0.mk c27
            clear c27
            obtain ⟨y136, hy136⟩ : ∃ y_ : List (S90), y_ = (x6_1 ++ [(⟨a1_0, a1_1, a1_2⟩ : S90)]) := ⟨_, rfl⟩
            replace H : (some y136) = some r := by first | (rw [hy136]; with_reducible exact H) | (have H2_ := (Option.bind_some _ _).symm.trans H; rw [hy136]; with_reducible exact H2_) | (have H2_ := (Option.bind_some _ _).symm.trans H; with_reducible exact H2_) | with_reducible exact H | (rw [hy136]; exact H) | exact H
            have Ny136 := Aside0.mk hy136
            clear hy136
            obtain rfl := Option.some.inj H
            obtain ⟨Ao28, co28, eo28⟩ := Kd.R_slice HO_5.out
            subst eo28
            have hcz29_0 : wr.cell? ⟨gb116, 0, none⟩ = some (.string a1_0) := (blk_cell BK116.out 0).trans rfl
            have hcz29_1 : wr.cell? ⟨gb116, 1, none⟩ = some (.string a1_1) := (blk_cell BK116.out 1).trans rfl
            have hcz29_2 : wr.cell? ⟨gb116, 2, none⟩ = some (.int .i64 a1_2) := (blk_cell BK116.out 2).trans rfl
            have hfz29_0 := blk_frozen BK116.out 0
            have hfz29_1 := blk_frozen BK116.out 1
            have hfz29_2 := blk_frozen BK116.out 2
            go_wp2_with (first | ((with_reducible refine gate_builtin (b := .append) (xs := #[.tmp 44, .tmp 46]) rfl ?_); at_builtin; refine Kd.R_append k90 (w0 := w) w.heap.size rfl (.tmp 44) (.tmp 46) 85 90 (.agg #[(.string ⟨#[]⟩), (.string ⟨#[]⟩), (.int .i64 0)]) 40 rfl Tryd.underlying85 info90 rfl (by decide) (by omega) u6 x6_1 (⟨a1_0, a1_1, a1_2⟩ : S90) [.string a1_0, .string a1_1, .int .i64 a1_2] (fun k_ => some k_ ≠ (.slice Ao28 t117.length co28 : Value).ownBlock ∧ k_ ≠ gb116) (fun _ => False) rfl rfl ?aP (fun _ hk => hk.elim) ?aF ?aO ?aB ?aS ?aL ?_; (case aP => exact k90_mkM _ _ _ (⟨a1_0, a1_1, a1_2⟩ : S90)); (case aB => exact (by repeat (first | (with_reducible first | exact HB.out | apply below_alloc | apply pw_below_drewN | apply below_drew1 | refine below_set ?_ GE116.out) | exact HB.out))); (case aF => exact (fun k_ hk => ⟨Kd.fresh' (Kd.R_lt (by (with_reducible repeat (first | apply Kd.R_alloc | apply Kd.R_drewN | apply Kd.R_drew)); exact HO_5.out)) k_ hk, Kd.freshB (g := gb116) (o := .cells #[.string a1_0, .string a1_1, .int .i64 a1_2] 90 (0, 0)) (by (with_reducible repeat (first | refine blk_drewN ?_ _ | refine blk_drew ?_ | refine blk_alloc ?_ _)); exact BK116.out) k_ hk⟩)); (case aO => exact (by (with_reducible repeat (first | apply Kd.R_alloc | apply Kd.R_drewN | apply Kd.R_drew)); exact HO_6.out)); (case aS => exact (below_size (by repeat (first | (with_reducible first | exact HB.out | apply below_alloc | apply pw_below_drewN | apply below_drew1 | refine below_set ?_ GE116.out) | exact HB.out)))); (case aL => have := LMc27.out; omega); intro v137 w30 ho hb hg hat; rw [← Ny136.out] at ho; have n0_ := Aside0.mk (Kd.R_after (ok := (fun k_ => k_ ≠ gb116)) (by (with_reducible repeat (first | apply Kd.R_alloc | apply Kd.R_drewN | apply Kd.R_drew)); exact Kd.R_mono HO_5.out (fun _ hk => ⟨hk.2, hk.1⟩)) hg hat); have n1_ := Aside0.mk (blk_grown (g := gb116) (o := .cells #[.string a1_0, .string a1_1, .int .i64 a1_2] 90 (0, 0)) (by (with_reducible repeat (first | refine blk_drewN ?_ _ | refine blk_drew ?_ | refine blk_alloc ?_ _)); exact BK116.out) hg (Kd.R_away HO_6.out (fun _ hk => hk.2))); have n2_ := Aside0.mk (hb); have n3_ := Aside0.mk (ho); clear HO_5; clear BK116; clear HB; clear HO_6; have HO_5 := n0_; have BK116 := n1_; have HB := n2_; have HO138 := n3_; clear n0_ n1_ n2_ n3_; clear ho hb hg hat))
            repeat (go_quiet (first | ((with_reducible refine gate_builtin (b := .append) (xs := #[.tmp 44, .tmp 46]) rfl ?_); at_builtin; refine Kd.R_append k90 (w0 := w) w.heap.size rfl (.tmp 44) (.tmp 46) 85 90 (.agg #[(.string ⟨#[]⟩), (.string ⟨#[]⟩), (.int .i64 0)]) 40 rfl Tryd.underlying85 info90 rfl (by decide) (by omega) u6 x6_1 (⟨a1_0, a1_1, a1_2⟩ : S90) [.string a1_0, .string a1_1, .int .i64 a1_2] (fun k_ => some k_ ≠ (.slice Ao28 t117.length co28 : Value).ownBlock ∧ k_ ≠ gb116) (fun _ => False) rfl rfl ?aP (fun _ hk => hk.elim) ?aF ?aO ?aB ?aS ?aL ?_; (case aP => exact k90_mkM _ _ _ (⟨a1_0, a1_1, a1_2⟩ : S90)); (case aB => exact (by repeat (first | (with_reducible first | exact HB.out | apply below_alloc | apply pw_below_drewN | apply below_drew1 | refine below_set ?_ GE116.out) | exact HB.out))); (case aF => exact (fun k_ hk => ⟨Kd.fresh' (Kd.R_lt (by (with_reducible repeat (first | apply Kd.R_alloc | apply Kd.R_drewN | apply Kd.R_drew)); exact HO_5.out)) k_ hk, Kd.freshB (g := gb116) (o := .cells #[.string a1_0, .string a1_1, .int .i64 a1_2] 90 (0, 0)) (by (with_reducible repeat (first | refine blk_drewN ?_ _ | refine blk_drew ?_ | refine blk_alloc ?_ _)); exact BK116.out) k_ hk⟩)); (case aO => exact (by (with_reducible repeat (first | apply Kd.R_alloc | apply Kd.R_drewN | apply Kd.R_drew)); exact HO_6.out)); (case aS => exact (below_size (by repeat (first | (with_reducible first | exact HB.out | apply below_alloc | apply pw_below_drewN | apply below_drew1 | refine below_set ?_ GE116.out) | exact HB.out)))); (case aL => have := LMc27.out; omega); intro v137 w30 ho hb hg hat; rw [← Ny136.out] at ho; have n0_ := Aside0.mk (Kd.R_after (ok := (fun k_ => k_ ≠ gb116)) (by (with_reducible repeat (first | apply Kd.R_alloc | apply Kd.R_drewN | apply Kd.R_drew)); exact Kd.R_mono HO_5.out (fun _ hk => ⟨hk.2, hk.1⟩)) hg hat); have n1_ := Aside0.mk (blk_grown (g := gb116) (o := .cells #[.string a1_0, .string a1_1, .int .i64 a1_2] 90 (0, 0)) (by (with_reducible repeat (first | refine blk_drewN ?_ _ | refine blk_drew ?_ | refine blk_alloc ?_ _)); exact BK116.out) hg (Kd.R_away HO_6.out (fun _ hk => hk.2))); have n2_ := Aside0.mk (hb); have n3_ := Aside0.mk (ho); clear HO_5; clear BK116; clear HB; clear HO_6; have HO_5 := n0_; have BK116 := n1_; have HB := n2_; have HO138 := n3_; clear n0_ n1_ n2_ n3_; clear ho hb hg hat)); try go_wp2_with (first | ((with_reducible refine gate_builtin (b := .append) (xs := #[.tmp 44, .tmp 46]) rfl ?_); at_builtin; refine Kd.R_append k90 (w0 := w) w.heap.size rfl (.tmp 44) (.tmp 46) 85 90 (.agg #[(.string ⟨#[]⟩), (.string ⟨#[]⟩), (.int .i64 0)]) 40 rfl Tryd.underlying85 info90 rfl (by decide) (by omega) u6 x6_1 (⟨a1_0, a1_1, a1_2⟩ : S90) [.string a1_0, .string a1_1, .int .i64 a1_2] (fun k_ => some k_ ≠ (.slice Ao28 t117.length co28 : Value).ownBlock ∧ k_ ≠ gb116) (fun _ => False) rfl rfl ?aP (fun _ hk => hk.elim) ?aF ?aO ?aB ?aS ?aL ?_; (case aP => exact k90_mkM _ _ _ (⟨a1_0, a1_1, a1_2⟩ : S90)); (case aB => exact (by repeat (first | (with_reducible first | exact HB.out | apply below_alloc | apply pw_below_drewN | apply below_drew1 | refine below_set ?_ GE116.out) | exact HB.out))); (case aF => exact (fun k_ hk => ⟨Kd.fresh' (Kd.R_lt (by (with_reducible repeat (first | apply Kd.R_alloc | apply Kd.R_drewN | apply Kd.R_drew)); exact HO_5.out)) k_ hk, Kd.freshB (g := gb116) (o := .cells #[.string a1_0, .string a1_1, .int .i64 a1_2] 90 (0, 0)) (by (with_reducible repeat (first | refine blk_drewN ?_ _ | refine blk_drew ?_ | refine blk_alloc ?_ _)); exact BK116.out) k_ hk⟩)); (case aO => exact (by (with_reducible repeat (first | apply Kd.R_alloc | apply Kd.R_drewN | apply Kd.R_drew)); exact HO_6.out)); (case aS => exact (below_size (by repeat (first | (with_reducible first | exact HB.out | apply below_alloc | apply pw_below_drewN | apply below_drew1 | refine below_set ?_ GE116.out) | exact HB.out)))); (case aL => have := LMc27.out; omega); intro v137 w30 ho hb hg hat; rw [← Ny136.out] at ho; have n0_ := Aside0.mk (Kd.R_after (ok := (fun k_ => k_ ≠ gb116)) (by (with_reducible repeat (first | apply Kd.R_alloc | apply Kd.R_drewN | apply Kd.R_drew)); exact Kd.R_mono HO_5.out (fun _ hk => ⟨hk.2, hk.1⟩)) hg hat); have n1_ := Aside0.mk (blk_grown (g := gb116) (o := .cells #[.string a1_0, .string a1_1, .int .i64 a1_2] 90 (0, 0)) (by (with_reducible repeat (first | refine blk_drewN ?_ _ | refine blk_drew ?_ | refine blk_alloc ?_ _)); exact BK116.out) hg (Kd.R_away HO_6.out (fun _ hk => hk.2))); have n2_ := Aside0.mk (hb); have n3_ := Aside0.mk (ho); clear HO_5; clear BK116; clear HB; clear HO_6; have HO_5 := n0_; have BK116 := n1_; have HB := n2_; have HO138 := n3_; clear n0_ n1_ n2_ n3_; clear ho hb hg hat)))
            go_ret
            exact ⟨_, by first | rfl | (simp [errW_none, errW_some] <;> rfl) | (simp [*, errW_none, errW_some] <;> rfl), by (with_reducible repeat (first | apply Kd.R_alloc | apply Kd.R_drewN | apply Kd.R_drew)); exact Kd.R_mono HO138.out (fun _ hk => trivial), by repeat (first | (with_reducible first | exact HB.out | apply below_alloc | apply pw_below_drewN | apply below_drew1 | refine below_set ?_ GE116.out) | exact HB.out)⟩
          · rw [if_neg c27] at H
            exact absurd H (by simp)

-- GIVEN: cooperageref5_way (function 66)

end Go.Proofs.YtajiidkmijeidaaDoor.F
namespace Go.Proofs.YtajiidkmijeidaaDoor.F
open Go.Proofs.YtajiidkmijeidaaDoor.Fr
open Go.Proofs.YtajiidkmijeidaaDoor
open Go.RowKit Go.Proofs.YtajiidkmijeidaaDoorW.PrintWords Go.Proofs.YtajiidkmijeidaaDoorW.PrintLast Go.Proofs.YtajiidkmijeidaaDoorW.PrintMore
attribute [local go_sem] max2_int min2_int max_two min_two max_three min_three max_four min_four   -- for this text's walks alone
set_option linter.unusedVariables false
set_option linter.unusedSimpArgs false

/-! ### cooperageref5_blocked: function 54 -/
def cooperageref5_blocked.l0 : Nat → List (S90) → ByteArray → Int → Option (Bool)
  | 0, _, _, _ => none
  | k + 1, x0, x1, x5 => if x5 < (x0.length : Int) then (if 0 ≤ x5 then ((cooperageref5_way.f ((rd_T90 x0 x5).f0) x1).bind fun t140 => (if t140 = true then (some true) else ((cooperageref5_way.f x1 ((rd_T90 x0 x5).f0)).bind fun t142 => (if t142 = true then (some true) else (cooperageref5_blocked.l0 k x0 x1 (wrap64 (x5 + 1))))))) else (none)) else (some false)
def cooperageref5_blocked.f (k : Nat) (l0 : List (S90)) (a1 : ByteArray) : Option (Bool) := cooperageref5_blocked.l0 k l0 a1 0
theorem cooperageref5_blocked.mono_l : ∀ k, (∀ y0 y1 y2, LeO (cooperageref5_blocked.l0 k y0 y1 y2) (cooperageref5_blocked.l0 (k + 1) y0 y1 y2))
  | 0 => fun _ _ _ r h => by simp [cooperageref5_blocked.l0] at h
  | k + 1 => by
    have ih0 := cooperageref5_blocked.mono_l k
    · intro y0 y1 y2
      unfold cooperageref5_blocked.l0
      repeat' first
      | (with_reducible exact ih0 _ _ _)
      | (with_reducible exact LeO.refl _)
      | (with_reducible exact LeO.none _)
      | (with_reducible refine LeO.ite ?_ ?_)
      | (with_reducible refine LeO.bind ?_ (fun _ => ?_))
      | exact ih0 _ _ _
      | exact LeO.none _
      | refine LeO.ite ?_ ?_
      | refine LeO.bind ?_ (fun _ => ?_)
theorem cooperageref5_blocked.mono : ∀ a0 a1 k, LeO (cooperageref5_blocked.f k a0 a1) (cooperageref5_blocked.f (k + 1) a0 a1) := by
  intro a0 a1 k
  have ih0 := cooperageref5_blocked.mono_l k
  unfold cooperageref5_blocked.f
  repeat' first
      | (with_reducible exact ih0 _ _ _)
      | (with_reducible exact LeO.refl _)
      | (with_reducible exact LeO.none _)
      | (with_reducible refine LeO.ite ?_ ?_)
      | (with_reducible refine LeO.bind ?_ (fun _ => ?_))
      | exact ih0 _ _ _
      | exact LeO.none _
      | refine LeO.ite ?_ ?_
      | refine LeO.bind ?_ (fun _ => ?_)
set_option maxHeartbeats 8000000 in
set_option maxRecDepth 100000 in
theorem cooperageref5_blocked.calls (k : Nat) (A0 : Option Addr) (c0 : Nat) (l0 : List (S90)) (a1 : ByteArray) (r : Bool) (w : World) (hr0 : Kd.C k90 w A0 l0.length l0) (hc0 : l0.length ≤ c0) (h : cooperageref5_blocked.f k l0 a1 = some r) :
    Calls Tryd.prog 54 #[.slice A0 l0.length c0, .string a1] w fun e w' => e = .returned (.bool r) ∧ Drawn0 w w' := by
  have HR0 := Aside0.mk hr0
  have HC0 := Aside0.mk hc0
  clear hr0 hc0
  have H : (cooperageref5_blocked.l0 k l0 a1 0) = some r := h
  clear h
  have H' := Aside0.mk H
  clear H
  go_enter Tryd.func54, Tryd.ntmps54
  go_wp2
  go_loopg [5] k (fun kq v5 w' => ∃ (x5_1 : Int), v5 = .int .i64 x5_1 ∧ Aside0 (cooperageref5_blocked.l0 kq l0 a1 x5_1 = some r) ∧ Aside0 (kq ≤ k) ∧ Drawn0 w w')
  case atStart => exact ⟨(0), (by first | rfl | (simp; done) | (simp [*]; done)), H', ⟨Nat.le_refl _⟩, by repeat (first | exact Drawn0.refl _ | apply Drawn0.step)⟩
  case round =>
    clear H'
    try clear p2
    obtain ⟨x5_1, rfl, HA, HK1, ⟨m1, rfl⟩⟩ := hrel
    cases gk with
    | zero => exact absurd HA.out (by simp [cooperageref5_blocked.l0])
    | succ k1 =>
      have H := HA.out
      clear HA
      simp only [cooperageref5_blocked.l0] at H
      by_cases c3 : x5_1 < (l0.length : Int)
      · rw [if_pos c3] at H
        have c3b0 : decide (x5_1 < (l0.length : Int)) = true := decide_eq_true c3
        clear c3
        by_cases c4 : 0 ≤ x5_1
        · rw [if_pos c4] at H
          have c4b0 : decide (0 ≤ x5_1) = true := decide_eq_true c4
          clear c4
          replace H := Option.bind_eq_some_iff.mp H
          obtain ⟨t140, A50, H⟩ := H
          replace H : (if t140 = true then (some true) else ((cooperageref5_way.f a1 ((rd_T90 l0 x5_1).f0)).bind fun t142 => (if t142 = true then (some true) else (cooperageref5_blocked.l0 k1 l0 a1 (wrap64 (x5_1 + 1)))))) = some r := H
          have A5 := Aside0.mk A50
          clear A50
          by_cases c6 : t140 = true
          · subst c6
            have H1 : (some true) = some r := by rw [if_pos rfl] at H; exact H
            clear H
            have H := H1
            clear H1
            obtain rfl := Option.some.inj H
            have p139 : 0 ≤ (x5_1 : Int) := of_decide_eq_true (by first | (with_reducible assumption) | assumption)
            have q139 : x5_1 < (l0.length : Int) := of_decide_eq_true (by first | (with_reducible assumption) | assumption)
            obtain ⟨ad139, e139, hx139_0, hx139_1, hx139_2⟩ := at_T90 HR0.out x5_1 p139 q139
            cases e139
            replace p139 := eq_true p139
            replace q139 := eq_true q139
            go_wp2_with (first | ((with_reducible refine gate_callee (f := 66) rfl ?_); refine goesL_ (some 18) rfl rfl Tryd.func66 (by kernel_rfl) rfl #[.string ((rd_T90 l0 x5_1).f0), .string a1] rfl (by (try simp only [List.map_toArray, List.map_cons, List.map_nil]); first | done | rfl | (simp only [List.length_drop, List.length_take]; rfl)) ?_; (with_reducible refine (cooperageref5_way.calls ((rd_T90 l0 x5_1).f0) a1 true _ A5.out).mono ?_); rintro e w' ⟨rfl, ⟨nd, rfl⟩⟩; refine ⟨_, rfl, ?_⟩))
            go_ret
            exact ⟨by first | rfl | (simp; done) | (simp [*]; done), by repeat (first | exact Drawn0.refl _ | apply Drawn0.step)⟩
          · replace c6 := Bool.eq_false_iff.mpr c6
            subst c6
            have H1 : ((cooperageref5_way.f a1 ((rd_T90 l0 x5_1).f0)).bind fun t142 => (if t142 = true then (some true) else (cooperageref5_blocked.l0 k1 l0 a1 (wrap64 (x5_1 + 1))))) = some r := by rw [if_neg (show ¬ (false = true) by decide)] at H; exact H
            clear H
            have H := H1
            clear H1
            replace H := Option.bind_eq_some_iff.mp H
            obtain ⟨t142, A70, H⟩ := H
            replace H : (if t142 = true then (some true) else (cooperageref5_blocked.l0 k1 l0 a1 (wrap64 (x5_1 + 1)))) = some r := H
            have A7 := Aside0.mk A70
            clear A70
            by_cases c8 : t142 = true
            · subst c8
              have H1 : (some true) = some r := by rw [if_pos rfl] at H; exact H
              clear H
              have H := H1
              clear H1
              obtain rfl := Option.some.inj H
              have p139 : 0 ≤ (x5_1 : Int) := of_decide_eq_true (by first | (with_reducible assumption) | assumption)
              have q139 : x5_1 < (l0.length : Int) := of_decide_eq_true (by first | (with_reducible assumption) | assumption)
              obtain ⟨ad139, e139, hx139_0, hx139_1, hx139_2⟩ := at_T90 HR0.out x5_1 p139 q139
              cases e139
              replace p139 := eq_true p139
              replace q139 := eq_true q139
              go_wp2_with (first | ((with_reducible refine gate_callee (f := 66) rfl ?_); refine goesL_ (some 18) rfl rfl Tryd.func66 (by kernel_rfl) rfl #[.string ((rd_T90 l0 x5_1).f0), .string a1] rfl (by (try simp only [List.map_toArray, List.map_cons, List.map_nil]); first | done | rfl | (simp only [List.length_drop, List.length_take]; rfl)) ?_; (with_reducible refine (cooperageref5_way.calls ((rd_T90 l0 x5_1).f0) a1 false _ A5.out).mono ?_); rintro e w' ⟨rfl, ⟨nd, rfl⟩⟩; refine ⟨_, rfl, ?_⟩; have p141 : 0 ≤ (x5_1 : Int) := of_decide_eq_true (by first | (with_reducible assumption) | assumption); have q141 : x5_1 < (l0.length : Int) := of_decide_eq_true (by first | (with_reducible assumption) | assumption); obtain ⟨ad141, e141, hx141_0, hx141_1, hx141_2⟩ := at_T90 HR0.out x5_1 p141 q141; obtain rfl : ad139 = ad141 := (by injection e141); replace p141 := eq_true p141; replace q141 := eq_true q141) | (go_at_call 66; (with_reducible refine (cooperageref5_way.calls a1 ((rd_T90 l0 x5_1).f0) true _ A7.out).mono ?_); rintro e w' ⟨rfl, ⟨nd, rfl⟩⟩))
              go_ret
              exact ⟨by first | rfl | (simp; done) | (simp [*]; done), by repeat (first | exact Drawn0.refl _ | apply Drawn0.step)⟩
            · replace c8 := Bool.eq_false_iff.mpr c8
              subst c8
              have H1 : (cooperageref5_blocked.l0 k1 l0 a1 (wrap64 (x5_1 + 1))) = some r := by rw [if_neg (show ¬ (false = true) by decide)] at H; exact H
              clear H
              have H := H1
              clear H1
              have H' := Aside0.mk H
              clear H
              have p139 : 0 ≤ (x5_1 : Int) := of_decide_eq_true (by first | (with_reducible assumption) | assumption)
              have q139 : x5_1 < (l0.length : Int) := of_decide_eq_true (by first | (with_reducible assumption) | assumption)
              obtain ⟨ad139, e139, hx139_0, hx139_1, hx139_2⟩ := at_T90 HR0.out x5_1 p139 q139
              cases e139
              replace p139 := eq_true p139
              replace q139 := eq_true q139
              go_wp2_with (first | ((with_reducible refine gate_callee (f := 66) rfl ?_); refine goesL_ (some 18) rfl rfl Tryd.func66 (by kernel_rfl) rfl #[.string ((rd_T90 l0 x5_1).f0), .string a1] rfl (by (try simp only [List.map_toArray, List.map_cons, List.map_nil]); first | done | rfl | (simp only [List.length_drop, List.length_take]; rfl)) ?_; (with_reducible refine (cooperageref5_way.calls ((rd_T90 l0 x5_1).f0) a1 false _ A5.out).mono ?_); rintro e w' ⟨rfl, ⟨nd, rfl⟩⟩; refine ⟨_, rfl, ?_⟩; have p141 : 0 ≤ (x5_1 : Int) := of_decide_eq_true (by first | (with_reducible assumption) | assumption); have q141 : x5_1 < (l0.length : Int) := of_decide_eq_true (by first | (with_reducible assumption) | assumption); obtain ⟨ad141, e141, hx141_0, hx141_1, hx141_2⟩ := at_T90 HR0.out x5_1 p141 q141; obtain rfl : ad139 = ad141 := (by injection e141); replace p141 := eq_true p141; replace q141 := eq_true q141) | (go_at_call 66; (with_reducible refine (cooperageref5_way.calls a1 ((rd_T90 l0 x5_1).f0) false _ A7.out).mono ?_); rintro e w' ⟨rfl, ⟨nd, rfl⟩⟩))
              go_roundg k1
              case measure => have := HK1.out; omega
              case rel => exact ⟨(wrap64 (x5_1 + 1)), (by first | rfl | (simp; done) | (simp [*]; done)), H', ⟨by have := HK1.out; omega⟩, by repeat (first | exact Drawn0.refl _ | apply Drawn0.step)⟩
        · rw [if_neg c4] at H
          exact absurd H (by simp)
      · rw [if_neg c3] at H
        have c3b0 : decide (x5_1 < (l0.length : Int)) = false := decide_eq_false c3
        clear c3
        obtain rfl := Option.some.inj H
        go_wp2
        go_ret
        exact ⟨by first | rfl | (simp; done) | (simp [*]; done), by repeat (first | exact Drawn0.refl _ | apply Drawn0.step)⟩

/-! ### cooperageref5_used: function 64 -/
def cooperageref5_used.l0 : Nat → List (S90) → Int → Int → Option (Int)
  | 0, _, _, _ => none
  | k + 1, x0, x3, x4 => if x4 < (x0.length : Int) then (if 0 ≤ x4 then (cooperageref5_used.l0 k x0 (wrap64 (x3 + (((rd_T90 x0 x4).f1).size : Int))) (wrap64 (x4 + 1))) else (none)) else (some x3)
def cooperageref5_used.f (k : Nat) (l0 : List (S90)) : Option (Int) := cooperageref5_used.l0 k l0 0 0
theorem cooperageref5_used.mono_l : ∀ k, (∀ y0 y1 y2, LeO (cooperageref5_used.l0 k y0 y1 y2) (cooperageref5_used.l0 (k + 1) y0 y1 y2))
  | 0 => fun _ _ _ r h => by simp [cooperageref5_used.l0] at h
  | k + 1 => by
    have ih0 := cooperageref5_used.mono_l k
    · intro y0 y1 y2
      unfold cooperageref5_used.l0
      repeat' first
      | (with_reducible exact ih0 _ _ _)
      | (with_reducible exact LeO.refl _)
      | (with_reducible exact LeO.none _)
      | (with_reducible refine LeO.ite ?_ ?_)
      | (with_reducible refine LeO.bind ?_ (fun _ => ?_))
      | exact ih0 _ _ _
      | exact LeO.none _
      | refine LeO.ite ?_ ?_
      | refine LeO.bind ?_ (fun _ => ?_)
theorem cooperageref5_used.mono : ∀ a0 k, LeO (cooperageref5_used.f k a0) (cooperageref5_used.f (k + 1) a0) := by
  intro a0 k
  have ih0 := cooperageref5_used.mono_l k
  unfold cooperageref5_used.f
  repeat' first
      | (with_reducible exact ih0 _ _ _)
      | (with_reducible exact LeO.refl _)
      | (with_reducible exact LeO.none _)
      | (with_reducible refine LeO.ite ?_ ?_)
      | (with_reducible refine LeO.bind ?_ (fun _ => ?_))
      | exact ih0 _ _ _
      | exact LeO.none _
      | refine LeO.ite ?_ ?_
      | refine LeO.bind ?_ (fun _ => ?_)
set_option maxHeartbeats 8000000 in
set_option maxRecDepth 100000 in
theorem cooperageref5_used.calls (k : Nat) (A0 : Option Addr) (c0 : Nat) (l0 : List (S90)) (r : Int) (w : World) (hr0 : Kd.C k90 w A0 l0.length l0) (hc0 : l0.length ≤ c0) (h : cooperageref5_used.f k l0 = some r) :
    Calls Tryd.prog 64 #[.slice A0 l0.length c0] w fun e w' => e = .returned (.int .i64 r) ∧ Drawn0 w w' := by
  have HR0 := Aside0.mk hr0
  have HC0 := Aside0.mk hc0
  clear hr0 hc0
  have H : (cooperageref5_used.l0 k l0 0 0) = some r := h
  clear h
  have H' := Aside0.mk H
  clear H
  go_enter Tryd.func64, Tryd.ntmps64
  go_wp2
  go_loopg [3, 4] k (fun kq v3 v4 w' => ∃ (x3_1 : Int) (x4_1 : Int), v3 = .int .i64 x3_1 ∧ v4 = .int .i64 x4_1 ∧ Aside0 (cooperageref5_used.l0 kq l0 x3_1 x4_1 = some r) ∧ Aside0 (kq ≤ k) ∧ Drawn0 w w')
  case atStart => exact ⟨(0), (0), (by first | rfl | (simp; done) | (simp [*]; done)), (by first | rfl | (simp; done) | (simp [*]; done)), H', ⟨Nat.le_refl _⟩, by repeat (first | exact Drawn0.refl _ | apply Drawn0.step)⟩
  case round =>
    clear H'
    obtain ⟨x3_1, x4_1, rfl, rfl, HA, HK1, ⟨m1, rfl⟩⟩ := hrel
    cases gk with
    | zero => exact absurd HA.out (by simp [cooperageref5_used.l0])
    | succ k1 =>
      have H := HA.out
      clear HA
      simp only [cooperageref5_used.l0] at H
      by_cases c2 : x4_1 < (l0.length : Int)
      · rw [if_pos c2] at H
        have c2b0 : decide (x4_1 < (l0.length : Int)) = true := decide_eq_true c2
        clear c2
        by_cases c3 : 0 ≤ x4_1
        · rw [if_pos c3] at H
          have c3b0 : decide (0 ≤ x4_1) = true := decide_eq_true c3
          clear c3
          have H' := Aside0.mk H
          clear H
          have p143 : 0 ≤ (x4_1 : Int) := of_decide_eq_true (by first | (with_reducible assumption) | assumption)
          have q143 : x4_1 < (l0.length : Int) := of_decide_eq_true (by first | (with_reducible assumption) | assumption)
          obtain ⟨ad143, e143, hx143_0, hx143_1, hx143_2⟩ := at_T90 HR0.out x4_1 p143 q143
          cases e143
          replace p143 := eq_true p143
          replace q143 := eq_true q143
          go_wp2
          go_roundg k1
          case measure => have := HK1.out; omega
          case rel => exact ⟨(wrap64 (x3_1 + (((rd_T90 l0 x4_1).f1).size : Int))), (wrap64 (x4_1 + 1)), (by first | rfl | (simp; done) | (simp [*]; done)), (by first | rfl | (simp; done) | (simp [*]; done)), H', ⟨by have := HK1.out; omega⟩, by repeat (first | exact Drawn0.refl _ | apply Drawn0.step)⟩
        · rw [if_neg c3] at H
          exact absurd H (by simp)
      · rw [if_neg c2] at H
        have c2b0 : decide (x4_1 < (l0.length : Int)) = false := decide_eq_false c2
        clear c2
        obtain rfl := Option.some.inj H
        go_wp2
        go_ret
        exact ⟨by first | rfl | (simp; done) | (simp [*]; done), by repeat (first | exact Drawn0.refl _ | apply Drawn0.step)⟩

end Go.Proofs.YtajiidkmijeidaaDoor.F
namespace Go.Proofs.YtajiidkmijeidaaDoor.F
open Go.Proofs.YtajiidkmijeidaaDoor.Fr
open Go.Proofs.YtajiidkmijeidaaDoor
open Go.RowKit Go.Proofs.YtajiidkmijeidaaDoorW.PrintWords Go.Proofs.YtajiidkmijeidaaDoorW.PrintLast Go.Proofs.YtajiidkmijeidaaDoorW.PrintMore
attribute [local go_sem] max2_int min2_int max_two min_two max_three min_three max_four min_four   -- for this text's walks alone
set_option linter.unusedVariables false
set_option linter.unusedSimpArgs false

/-! ### text_plain: function 61 -/
mutual
def text_plain.j0 : Nat → Int → Bool → Option (Bool)
  | 0, _, _ => none
  | k + 1, x0, x3 => if x3 = true then (some true) else (if x0 ≥ 97 then (text_plain.j1 k x0 (decide (x0 ≤ 122))) else (text_plain.j1 k x0 false))
def text_plain.j1 : Nat → Int → Bool → Option (Bool)
  | 0, _, _ => none
  | k + 1, x0, x3 => if x3 = true then (some true) else (if x0 ≥ 48 then (if x0 ≤ 57 then (some true) else (if x0 = 95 then (some true) else (if x0 = 45 then (some true) else (if x0 = 46 then (some true) else (if x0 = 47 then (some true) else (some (x0 == 43))))))) else (if x0 = 95 then (some true) else (if x0 = 45 then (some true) else (if x0 = 46 then (some true) else (if x0 = 47 then (some true) else (some (x0 == 43)))))))
end
def text_plain.f (k : Nat) (a0 : Int) : Option (Bool) := if a0 ≥ 65 then (text_plain.j0 k a0 (decide (a0 ≤ 90))) else (text_plain.j0 k a0 false)
theorem text_plain.mono_l : ∀ k, (∀ y0 y1, LeO (text_plain.j0 k y0 y1) (text_plain.j0 (k + 1) y0 y1)) ∧ (∀ y0 y1, LeO (text_plain.j1 k y0 y1) (text_plain.j1 (k + 1) y0 y1))
  | 0 => ⟨fun _ _ r h => by simp [text_plain.j0] at h, fun _ _ r h => by simp [text_plain.j1] at h⟩
  | k + 1 => by
    obtain ⟨ih0, ih1⟩ := text_plain.mono_l k
    refine ⟨?_, ?_⟩
    · intro y0 y1
      unfold text_plain.j0
      repeat' first
      | (with_reducible exact ih0 _ _)
      | (with_reducible exact ih1 _ _)
      | (with_reducible exact LeO.refl _)
      | (with_reducible exact LeO.none _)
      | (with_reducible refine LeO.ite ?_ ?_)
      | (with_reducible refine LeO.bind ?_ (fun _ => ?_))
      | exact ih0 _ _
      | exact ih1 _ _
      | exact LeO.none _
      | refine LeO.ite ?_ ?_
      | refine LeO.bind ?_ (fun _ => ?_)
    · intro y0 y1
      unfold text_plain.j1
      repeat' first
      | (with_reducible exact ih0 _ _)
      | (with_reducible exact ih1 _ _)
      | (with_reducible exact LeO.refl _)
      | (with_reducible exact LeO.none _)
      | (with_reducible refine LeO.ite ?_ ?_)
      | (with_reducible refine LeO.bind ?_ (fun _ => ?_))
      | exact ih0 _ _
      | exact ih1 _ _
      | exact LeO.none _
      | refine LeO.ite ?_ ?_
      | refine LeO.bind ?_ (fun _ => ?_)
theorem text_plain.mono : ∀ a0 k, LeO (text_plain.f k a0) (text_plain.f (k + 1) a0) := by
  intro a0 k
  obtain ⟨ih0, ih1⟩ := text_plain.mono_l k
  unfold text_plain.f
  repeat' first
      | (with_reducible exact ih0 _ _)
      | (with_reducible exact ih1 _ _)
      | (with_reducible exact LeO.refl _)
      | (with_reducible exact LeO.none _)
      | (with_reducible refine LeO.ite ?_ ?_)
      | (with_reducible refine LeO.bind ?_ (fun _ => ?_))
      | exact ih0 _ _
      | exact ih1 _ _
      | exact LeO.none _
      | refine LeO.ite ?_ ?_
      | refine LeO.bind ?_ (fun _ => ?_)
set_option maxHeartbeats 8000000 in
set_option maxRecDepth 100000 in
theorem text_plain.calls (k : Nat) (a0 : Int) (r : Bool) (w : World) (h : text_plain.f k a0 = some r) :
    Calls Tryd.prog 61 #[.int .u8 a0] w fun e w' => e = .returned (.bool r) ∧ Drawn0 w w' := by
  have H : (if a0 ≥ 65 then (text_plain.j0 k a0 (decide (a0 ≤ 90))) else (text_plain.j0 k a0 false)) = some r := h
  clear h
  have HC2 := Aside0.mk H
  clear H
  go_enter Tryd.func61, Tryd.ntmps61
  go_upto_region 1 with (fail)
  go_cut [3] (fun v3 wc => ∃ (kq : Nat) (x3_1 : Bool), v3 = .bool x3_1 ∧ Aside0 (text_plain.j0 kq a0 x3_1 = some r) ∧ Aside0 (kq ≤ k) ∧ Drawn0 w wc)
  case first =>
    have H := HC2.out
    clear HC2
    by_cases c3 : a0 ≥ 65
    · rw [if_pos c3] at H
      have c3b0 : decide (65 ≤ a0) = true := decide_eq_true c3
      clear c3
      (first | rw [c3b0] | (simp only [i64_w, i32_w]; rw [c3b0]) | skip)
      have H' := Aside0.mk H
      clear H
      go_wp2
      go_meet
      case rel => exact ⟨_, (decide (a0 ≤ 90)), (by first | rfl | (simp; done) | (simp [*]; done)), H', ⟨by first | omega | exact Nat.le_refl _⟩, by repeat (first | exact Drawn0.refl _ | apply Drawn0.step)⟩
    · rw [if_neg c3] at H
      have c3b0 : decide (65 ≤ a0) = false := decide_eq_false c3
      clear c3
      (first | rw [c3b0] | (simp only [i64_w, i32_w]; rw [c3b0]) | skip)
      have H' := Aside0.mk H
      clear H
      go_wp2
      go_meet
      case rel => exact ⟨_, (false), (by first | rfl | (simp; done) | (simp [*]; done)), H', ⟨by first | omega | exact Nat.le_refl _⟩, by repeat (first | exact Drawn0.refl _ | apply Drawn0.step)⟩
  case rest =>
    clear HC2
    try clear p2
    try clear c3
    try clear c3b0
    obtain ⟨kq, x3_1, rfl, HA, HJ1, ⟨mc1, rfl⟩⟩ := hcut
    cases kq with
    | zero => exact absurd HA.out (by simp [text_plain.j0])
    | succ kj1 =>
      have H := HA.out
      clear HA
      simp only [text_plain.j0] at H
      by_cases c4 : x3_1 = true
      · subst c4
        have H1 : (some true) = some r := by rw [if_pos rfl] at H; exact H
        clear H
        have H := H1
        clear H1
        obtain rfl := Option.some.inj H
        go_wp2
        go_ret
        exact ⟨by first | rfl | (simp; done) | (simp [*]; done), by repeat (first | exact Drawn0.refl _ | apply Drawn0.step)⟩
      · replace c4 := Bool.eq_false_iff.mpr c4
        subst c4
        have H1 : (if a0 ≥ 97 then (text_plain.j1 kj1 a0 (decide (a0 ≤ 122))) else (text_plain.j1 kj1 a0 false)) = some r := by rw [if_neg (show ¬ (false = true) by decide)] at H; exact H
        clear H
        have H := H1
        clear H1
        have HC5 := Aside0.mk H
        clear H
        go_upto_region 2 with (fail)
        go_cut [3] (fun v3 wc => ∃ (kq : Nat) (x3_4 : Bool), v3 = .bool x3_4 ∧ Aside0 (text_plain.j1 kq a0 x3_4 = some r) ∧ Aside0 (kq ≤ kj1) ∧ Drawn0 w wc)
        case first =>
          have H := HC5.out
          clear HC5
          by_cases c6 : a0 ≥ 97
          · rw [if_pos c6] at H
            have c6b0 : decide (97 ≤ a0) = true := decide_eq_true c6
            clear c6
            (first | rw [c6b0] | (simp only [i64_w, i32_w]; rw [c6b0]) | skip)
            have H' := Aside0.mk H
            clear H
            go_wp2
            go_meet
            case rel => exact ⟨_, (decide (a0 ≤ 122)), (by first | rfl | (simp; done) | (simp [*]; done)), H', ⟨by have := HJ1.out; first | omega | exact Nat.le_refl _⟩, by repeat (first | exact Drawn0.refl _ | apply Drawn0.step)⟩
          · rw [if_neg c6] at H
            have c6b0 : decide (97 ≤ a0) = false := decide_eq_false c6
            clear c6
            (first | rw [c6b0] | (simp only [i64_w, i32_w]; rw [c6b0]) | skip)
            have H' := Aside0.mk H
            clear H
            go_wp2
            go_meet
            case rel => exact ⟨_, (false), (by first | rfl | (simp; done) | (simp [*]; done)), H', ⟨by have := HJ1.out; first | omega | exact Nat.le_refl _⟩, by repeat (first | exact Drawn0.refl _ | apply Drawn0.step)⟩
        case rest =>
          clear HC5
          try clear c1
          try clear p2
          try clear c3
          try clear c3b0
          try clear c4
          try clear c6
          try clear c6b0
          try clear p2
          obtain ⟨kq, x3_4, rfl, HA, HJ4, ⟨mc4, rfl⟩⟩ := hcut
          cases kq with
          | zero => exact absurd HA.out (by simp [text_plain.j1])
          | succ kj4 =>
            have H := HA.out
            clear HA
            simp only [text_plain.j1] at H
            by_cases c7 : x3_4 = true
            · subst c7
              have H1 : (some true) = some r := by rw [if_pos rfl] at H; exact H
              clear H
              have H := H1
              clear H1
              obtain rfl := Option.some.inj H
              go_wp2
              go_ret
              exact ⟨by first | rfl | (simp; done) | (simp [*]; done), by repeat (first | exact Drawn0.refl _ | apply Drawn0.step)⟩
            · replace c7 := Bool.eq_false_iff.mpr c7
              subst c7
              have H1 : (if a0 ≥ 48 then (if a0 ≤ 57 then (some true) else (if a0 = 95 then (some true) else (if a0 = 45 then (some true) else (if a0 = 46 then (some true) else (if a0 = 47 then (some true) else (some (a0 == 43))))))) else (if a0 = 95 then (some true) else (if a0 = 45 then (some true) else (if a0 = 46 then (some true) else (if a0 = 47 then (some true) else (some (a0 == 43))))))) = some r := by rw [if_neg (show ¬ (false = true) by decide)] at H; exact H
              clear H
              have H := H1
              clear H1
              by_cases c8 : a0 ≥ 48
              · rw [if_pos c8] at H
                have c8b0 : decide (48 ≤ a0) = true := decide_eq_true c8
                clear c8
                by_cases c9 : a0 ≤ 57
                · rw [if_pos c9] at H
                  have c9b0 : decide (a0 ≤ 57) = true := decide_eq_true c9
                  clear c9
                  obtain rfl := Option.some.inj H
                  go_wp2
                  go_ret
                  exact ⟨by first | rfl | (simp; done) | (simp [*]; done), by repeat (first | exact Drawn0.refl _ | apply Drawn0.step)⟩
                · rw [if_neg c9] at H
                  have c9b0 : decide (a0 ≤ 57) = false := decide_eq_false c9
                  clear c9
                  by_cases c10 : a0 = 95
                  · rw [if_pos c10] at H
                    have c10b0 : (a0 == 95) = true := beq_iff_eq.mpr c10
                    have c10b1 : (a0 != 95) = false := bne_eq_false_iff_eq.mpr c10
                    clear c10
                    obtain rfl := Option.some.inj H
                    go_wp2
                    go_ret
                    exact ⟨by first | rfl | (simp; done) | (simp [*]; done), by repeat (first | exact Drawn0.refl _ | apply Drawn0.step)⟩
                  · rw [if_neg c10] at H
                    have c10b0 : (a0 == 95) = false := beq_eq_false_iff_ne.mpr c10
                    have c10b1 : (a0 != 95) = true := bne_iff_ne.mpr c10
                    by_cases c11 : a0 = 45
                    · rw [if_pos c11] at H
                      have c11b0 : (a0 == 45) = true := beq_iff_eq.mpr c11
                      have c11b1 : (a0 != 45) = false := bne_eq_false_iff_eq.mpr c11
                      clear c11
                      obtain rfl := Option.some.inj H
                      go_wp2
                      go_ret
                      exact ⟨by first | rfl | (simp; done) | (simp [*]; done), by repeat (first | exact Drawn0.refl _ | apply Drawn0.step)⟩
                    · rw [if_neg c11] at H
                      have c11b0 : (a0 == 45) = false := beq_eq_false_iff_ne.mpr c11
                      have c11b1 : (a0 != 45) = true := bne_iff_ne.mpr c11
                      by_cases c12 : a0 = 46
                      · rw [if_pos c12] at H
                        have c12b0 : (a0 == 46) = true := beq_iff_eq.mpr c12
                        have c12b1 : (a0 != 46) = false := bne_eq_false_iff_eq.mpr c12
                        clear c12
                        obtain rfl := Option.some.inj H
                        go_wp2
                        go_ret
                        exact ⟨by first | rfl | (simp; done) | (simp [*]; done), by repeat (first | exact Drawn0.refl _ | apply Drawn0.step)⟩
                      · rw [if_neg c12] at H
                        have c12b0 : (a0 == 46) = false := beq_eq_false_iff_ne.mpr c12
                        have c12b1 : (a0 != 46) = true := bne_iff_ne.mpr c12
                        by_cases c13 : a0 = 47
                        · rw [if_pos c13] at H
                          have c13b0 : (a0 == 47) = true := beq_iff_eq.mpr c13
                          have c13b1 : (a0 != 47) = false := bne_eq_false_iff_eq.mpr c13
                          clear c13
                          obtain rfl := Option.some.inj H
                          go_wp2
                          go_ret
                          exact ⟨by first | rfl | (simp; done) | (simp [*]; done), by repeat (first | exact Drawn0.refl _ | apply Drawn0.step)⟩
                        · rw [if_neg c13] at H
                          have c13b0 : (a0 == 47) = false := beq_eq_false_iff_ne.mpr c13
                          have c13b1 : (a0 != 47) = true := bne_iff_ne.mpr c13
                          obtain rfl := Option.some.inj H
                          go_wp2
                          go_ret
                          exact ⟨by first | rfl | (simp; done) | (simp [*]; done), by repeat (first | exact Drawn0.refl _ | apply Drawn0.step)⟩
              · rw [if_neg c8] at H
                have c8b0 : decide (48 ≤ a0) = false := decide_eq_false c8
                clear c8
                by_cases c14 : a0 = 95
                · rw [if_pos c14] at H
                  have c14b0 : (a0 == 95) = true := beq_iff_eq.mpr c14
                  have c14b1 : (a0 != 95) = false := bne_eq_false_iff_eq.mpr c14
                  clear c14
                  obtain rfl := Option.some.inj H
                  go_wp2
                  go_ret
                  exact ⟨by first | rfl | (simp; done) | (simp [*]; done), by repeat (first | exact Drawn0.refl _ | apply Drawn0.step)⟩
                · rw [if_neg c14] at H
                  have c14b0 : (a0 == 95) = false := beq_eq_false_iff_ne.mpr c14
                  have c14b1 : (a0 != 95) = true := bne_iff_ne.mpr c14
                  by_cases c15 : a0 = 45
                  · rw [if_pos c15] at H
                    have c15b0 : (a0 == 45) = true := beq_iff_eq.mpr c15
                    have c15b1 : (a0 != 45) = false := bne_eq_false_iff_eq.mpr c15
                    clear c15
                    obtain rfl := Option.some.inj H
                    go_wp2
                    go_ret
                    exact ⟨by first | rfl | (simp; done) | (simp [*]; done), by repeat (first | exact Drawn0.refl _ | apply Drawn0.step)⟩
                  · rw [if_neg c15] at H
                    have c15b0 : (a0 == 45) = false := beq_eq_false_iff_ne.mpr c15
                    have c15b1 : (a0 != 45) = true := bne_iff_ne.mpr c15
                    by_cases c16 : a0 = 46
                    · rw [if_pos c16] at H
                      have c16b0 : (a0 == 46) = true := beq_iff_eq.mpr c16
                      have c16b1 : (a0 != 46) = false := bne_eq_false_iff_eq.mpr c16
                      clear c16
                      obtain rfl := Option.some.inj H
                      go_wp2
                      go_ret
                      exact ⟨by first | rfl | (simp; done) | (simp [*]; done), by repeat (first | exact Drawn0.refl _ | apply Drawn0.step)⟩
                    · rw [if_neg c16] at H
                      have c16b0 : (a0 == 46) = false := beq_eq_false_iff_ne.mpr c16
                      have c16b1 : (a0 != 46) = true := bne_iff_ne.mpr c16
                      by_cases c17 : a0 = 47
                      · rw [if_pos c17] at H
                        have c17b0 : (a0 == 47) = true := beq_iff_eq.mpr c17
                        have c17b1 : (a0 != 47) = false := bne_eq_false_iff_eq.mpr c17
                        clear c17
                        obtain rfl := Option.some.inj H
                        go_wp2
                        go_ret
                        exact ⟨by first | rfl | (simp; done) | (simp [*]; done), by repeat (first | exact Drawn0.refl _ | apply Drawn0.step)⟩
                      · rw [if_neg c17] at H
                        have c17b0 : (a0 == 47) = false := beq_eq_false_iff_ne.mpr c17
                        have c17b1 : (a0 != 47) = true := bne_iff_ne.mpr c17
                        obtain rfl := Option.some.inj H
                        go_wp2
                        go_ret
                        exact ⟨by first | rfl | (simp; done) | (simp [*]; done), by repeat (first | exact Drawn0.refl _ | apply Drawn0.step)⟩

end Go.Proofs.YtajiidkmijeidaaDoor.F
namespace Go.Proofs.YtajiidkmijeidaaDoor.F
open Go.Proofs.YtajiidkmijeidaaDoor.Fr
open Go.Proofs.YtajiidkmijeidaaDoor
open Go.RowKit Go.Proofs.YtajiidkmijeidaaDoorW.PrintWords Go.Proofs.YtajiidkmijeidaaDoorW.PrintLast Go.Proofs.YtajiidkmijeidaaDoorW.PrintMore
attribute [local go_sem] max2_int min2_int max_two min_two max_three min_three max_four min_four   -- for this text's walks alone
set_option linter.unusedVariables false
set_option linter.unusedSimpArgs false

end Go.Proofs.YtajiidkmijeidaaDoor.F
/- The library's calls on a tree's maps. -/
namespace Go.Proofs.YtajiidkmijeidaaDoor.Fr
open Go.RowKit Go.Proofs.YtajiidkmijeidaaDoor.F Go.Sort Go.Shelf
set_option linter.unusedVariables false
set_option linter.unusedSimpArgs false
theorem sortsA (m : Nat) : AnyZ.SortsIn Tryd.prog Tryd.sortedA_ren Fence.wide m :=
  ⟨fun blk off cap ss W hH hblk hsz => callsIn_wide.2 (AnyM.slices_Sort_string Tryd.laysSlM6_f58 blk off cap ss W hH hblk hsz),
   fun p cap W => callsIn_wide.2 (AnyM.slices_Sort_string_none Tryd.laysSlM6_f58 p cap W)⟩
/-- maps.Keys(m): an iterator over it. -/
theorem keys_call (b : Nat) (w : World) : Calls Tryd.prog 41 #[.map (some b)] w fun e w' =>
    e = .returned (.func (.func 59) #[] #[.pointer (some ⟨w.heap.size, 0, none⟩)]) ∧ w' = w.alloc (.cells #[.map (some b)] 69) :=
  (callsIn_wide (n := 5)).1 (AnyZ.keys_in Tryd.keysA Fence.wide 5 trivial rfl (some b) w)
/-- slices.Sorted over it: its keys, in their order. -/
theorem sorted_call {H : Type} (B b nn : Nat) (D0 : DataW H) (R : Value → Option (DataW H × List MemPlace)) (w : World) (hc : w.cell? ⟨B, 0, none⟩ = some (.map (some b))) (hB : B < w.heap.size) (hown : w.ownsMap Tryd.prog 9 R b nn D0) (hmax : Maps.size D0 ≤ 1000000) :
    Calls Tryd.prog 40 #[.func (.func 59) #[] #[.pointer (some ⟨B, 0, none⟩)]] w fun e w' => ∃ (v : Value) (ss : List (List UInt8)), e = .returned v ∧ ss.Perm (strKeys D0) ∧
      w'.ownsRow w.heap.size 9 1 v ss.length ((ss.mergeSort (fun x y => decide (x ≤ y))).map encStr) ∧ (v = .slice none 0 0 ↔ ss = []) ∧ Below w.heap.size w w' := by
  have hseq : SeqGives Fence.wide 2 Tryd.prog 59 #[.pointer (some ⟨B, 0, none⟩)] encStr (fun ss => ss.Perm (strKeys D0)) (Maps.size D0) w :=
    AnyZ.keys_gives (ρ := Tryd.keysA_ren) { Tryd.keysA with } Fence.wide _ trivial rfl (by omega) B b nn D0 _ hB hc hown
  exact (callsIn_wide (n := 5)).1 (AnyZ.sorted_in Tryd.sortedA Fence.wide 5 trivial trivial trivial trivial rfl (by omega) (sortsA _) (enters_of Tryd.func58 (by kernel_rfl) rfl) 59 #[.pointer (some ⟨B, 0, none⟩)] trivial
    (enters_of Tryd.func59 (by kernel_rfl) rfl) _ _ (Nat.le_trans hmax (by decide)) (by omega) _ hseq)
/-- maps.Clone: another map with the same entries. -/
theorem clone_call {H : Type} (k : TypeId) (R : Value → Option (DataW H × List MemPlace)) (b n : Nat) (D : DataW H) (w : World) (hown : w.ownsMap Tryd.prog k R b n D) :
    Calls Tryd.prog 42 #[.map (some b)] w fun e w' => e = .returned (.map (some w.heap.size)) ∧ w'.ownsMap Tryd.prog k R w.heap.size n D ∧ Below w.heap.size w w' ∧ w'.heap.size = w.heap.size + 1 := by
  have hown' := hown
  obtain ⟨es, clock, hb, F, hs, hD⟩ := hown
  refine (AnyW.maps_Clone Tryd.cloneM b es clock w hb).mono fun e w' ⟨he, hw⟩ => ?_
  subst hw
  exact ⟨he, ⟨es, clock, World.alloc_heap_new w _, F, hs, hD⟩, (Below.refl _ w).alloc (Nat.le_refl _) _, World.size_alloc _ _⟩
theorem prefix_call (s p : ByteArray) (w : World) : Calls Tryd.prog 63 #[.string s, .string p] w fun e w' => e = .returned (.bool (Lib.hasPrefix s.data.toList p.data.toList)) ∧ w = w' :=
  (Tryd.strings_HasPrefix s p w).mono fun e w' ⟨h1, h2⟩ => ⟨h1, h2.symm⟩
end Go.Proofs.YtajiidkmijeidaaDoor.Fr
/- A map of files: which row of files it holds. -/
namespace Go.Proofs.YtajiidkmijeidaaDoor.Fr
open Go.RowKit Go.Proofs.YtajiidkmijeidaaDoor.F Go.Maps Go.ChangeMaps Go.WideMaps
set_option linter.unusedVariables false
set_option linter.unusedSimpArgs false
/-- Which blocks are files, and what they hold: these blocks are never written. -/
abbrev Phi := Nat → Option (ByteArray × Int)
def fagg (f : ByteArray × Int) : DW := .agg [.lit (.string f.1.data.toList), .lit (.int .i64 f.2)]
/-- How a pointer to a file reads. -/
def elemR (φ : Phi) : Value → Option (DW × List MemPlace)
  | .pointer none => some (.lit (.bool false), [])
  | .pointer (some ⟨q, 0, none⟩) => (φ q).map fun f => (fagg f, [])
  | _ => none
theorem elemR_nil (φ : Phi) : elemR φ (.pointer none) = some (.lit (.bool false), []) := rfl
theorem elemR_mk {φ : Phi} {q : Nat} {f : ByteArray × Int} (h : φ q = some f) : elemR φ (.pointer (some ⟨q, 0, none⟩)) = some (fagg f, []) := by
  show (φ q).map _ = _
  rw [h]
  rfl
theorem elemR_inv {φ : Phi} {v : Value} {y : DW × List MemPlace} (h : elemR φ v = some y) : (v = .pointer none ∧ y = (.lit (.bool false), [])) ∨ ∃ q f, v = .pointer (some ⟨q, 0, none⟩) ∧ φ q = some f ∧ y = (fagg f, []) := by
  unfold elemR at h
  split at h
  · exact .inl ⟨rfl, (Option.some.inj h).symm⟩
  · next q =>
    cases hq : φ q with
    | none => rw [hq] at h; cases h
    | some f =>
      rw [hq] at h
      exact .inr ⟨q, f, rfl, hq, (Option.some.inj h).symm⟩
  · cases h
theorem elemR_ext {φ φ' : Phi} (he : ∀ q f, φ q = some f → φ' q = some f) {v : Value} {y : DW × List MemPlace} (h : elemR φ v = some y) : elemR φ' v = some y := by
  rcases elemR_inv h with ⟨rfl, rfl⟩ | ⟨q, f, rfl, hq, rfl⟩
  · rfl
  · exact elemR_mk (he q f hq)
theorem fagg_inj {f g : ByteArray × Int} (h : fagg f = fagg g) : f = g := by
  obtain ⟨⟨⟨a⟩⟩, x⟩ := f
  obtain ⟨⟨⟨b⟩⟩, y⟩ := g
  simp [fagg] at h
  obtain ⟨rfl, rfl⟩ := h
  rfl
theorem fagg_fval (f : Fl) : fagg (f.f1, f.f2) = fval f := rfl
/-- The files are there. -/
def FilesOK (w : World) (φ : Phi) : Prop := ∀ q f, φ q = some f → w.heap[q]? = some (.cells #[.string f.1, .int .i64 f.2] 75 (0, 0))
theorem FilesOK.lt {w : World} {φ : Phi} (h : FilesOK w φ) {q : Nat} (hq : φ q ≠ none) : q < w.heap.size := by
  cases e : φ q with
  | none => exact absurd e hq
  | some f => exact (Array.getElem?_eq_some_iff.1 (h q f e)).1
theorem FilesOK.chg {w w' : World} {φ : Phi} {S : Nat → Prop} (h : FilesOK w φ) (hc : Chg S w w') (hs : ∀ q, φ q ≠ none → ¬ S q) : FilesOK w' φ :=
  fun q f e => (hc.block q (h.lt (by rw [e]; simp)) (hs q (by rw [e]; simp))).trans (h q f e)
theorem FilesOK.below {w w' : World} {φ : Phi} (h : FilesOK w φ) (hb : Below w.heap.size w w') : FilesOK w' φ := h.chg (Chg.of_below hb fun _ => False) fun _ _ e => e
theorem FilesOK.cell0 {w : World} {φ : Phi} (h : FilesOK w φ) {q : Nat} {f : ByteArray × Int} (e : φ q = some f) : w.cell? ⟨q, 0, none⟩ = some (.string f.1) := by
  simp [World.cell?, h q f e]
theorem FilesOK.cell1 {w : World} {φ : Phi} (h : FilesOK w φ) {q : Nat} {f : ByteArray × Int} (e : φ q = some f) : w.cell? ⟨q, 1, none⟩ = some (.int .i64 f.2) := by
  simp [World.cell?, h q f e]
/-- φ with one file more. -/
def Phi.add (φ : Phi) (q : Nat) (f : ByteArray × Int) : Phi := fun k => if k = q then some f else φ k
/-- φ' has φ's files, and new ones. -/
structure Ext (w : World) (φ φ' : Phi) : Prop where
  keeps : ∀ q f, φ q = some f → φ' q = some f
  new : ∀ q, φ' q ≠ none → φ q ≠ none ∨ w.heap.size ≤ q
theorem Ext.refl (w : World) (φ : Phi) : Ext w φ φ := ⟨fun _ _ h => h, fun _ h => .inl h⟩
theorem Ext.trans {w w' : World} {φ φ' φ'' : Phi} (h : Ext w φ φ') (k : Ext w' φ' φ'') (hs : w.heap.size ≤ w'.heap.size) : Ext w φ φ'' :=
  ⟨fun q f e => k.keeps q f (h.keeps q f e), fun q e => (k.new q e).elim (fun e => h.new q e) fun e => .inr (Nat.le_trans hs e)⟩
theorem Ext.add (w : World) (φ : Phi) (f : ByteArray × Int) (hq : ∀ k, φ k ≠ none → k < w.heap.size) {q : Nat} (h : w.heap.size ≤ q) : Ext w φ (φ.add q f) := by
  refine ⟨fun k g e => ?_, fun k e => ?_⟩
  · have := hq k (by rw [e]; simp)
    unfold Phi.add
    rw [if_neg (by omega)]
    exact e
  · unfold Phi.add at e
    split at e
    next h => exact .inr (by omega)
    next h => exact .inl e
theorem lawK : Keyed Tryd.prog 9 := string_keyed Tryd.underlying9
theorem zeroP (w : World) : (zeroValue 70).run Tryd.prog w = .ok (.pointer none) w := by kernel_rfl
/-- Block b is a map that holds just these files. -/
def Img (w : World) (φ : Phi) (b : Nat) (L : List Fl) : Prop := w.ownsMap Tryd.prog 9 (elemR φ) b L.length (fdat L)
section
variable {w w' : World} {φ φ' : Phi} {b : Nat} {L : List Fl}
theorem owns_norm {n : Nat} {D : DW} (h : w.ownsMap Tryd.prog 9 (elemR φ) b n D) : w.ownsMap Tryd.prog 9 (elemR φ) b (Maps.size D) D := by
  obtain ⟨es, clock, hb, F, hs, rfl⟩ := h
  refine ⟨es, clock, hb, F, ?_, rfl⟩
  show es.size ≤ ((es.toList.map (WideElems.rg Tryd.prog 9 (elemR φ))).foldr DataW.insert []).length
  rw [length_sorted]
  simp
theorem Img.mk {n : Nat} (h : w.ownsMap Tryd.prog 9 (elemR φ) b n (fdat L)) : Img w φ b L := by
  have := owns_norm h
  rw [fdat_size] at this
  exact this
theorem Img.lt (h : Img w φ b L) : b < w.heap.size := World.ownsMap.lt h
theorem Img.block (h : Img w φ b L) (hb : w'.heap[b]? = w.heap[b]?) : Img w' φ b L := by
  obtain ⟨es, clock, h1, h2⟩ := h
  exact ⟨es, clock, hb.trans h1, h2⟩
theorem Img.chg {S : Nat → Prop} (h : Img w φ b L) (hc : Chg S w w') (hs : ¬ S b) : Img w' φ b L := h.block (hc.block b h.lt hs)
theorem Img.below (h : Img w φ b L) (hb : Below w.heap.size w w') : Img w' φ b L := h.block (hb.block b h.lt)
theorem Img.ext (h : Img w φ b L) (he : ∀ q f, φ q = some f → φ' q = some f) : Img w φ' b L := by
  obtain ⟨es, clock, h1, F, h2, h3⟩ := h
  obtain ⟨F', hmap, _⟩ := F.stay (R' := elemR φ') (fun x _ z hz => elemR_ext he hz)
  exact ⟨es, clock, h1, F', h2, by rw [hmap]; exact h3⟩
theorem Img.made (w : World) (φ : Phi) : Img (w.alloc (.map #[] 0)) φ w.heap.size [] := World.ownsMap_made _ _ _ _
theorem Img.look {p : ByteArray} (h : Img w φ b L) (hp : p.size ≤ 100000) {f : Fl} (hf : findF L p = some f) :
    ∃ q, (Instr.lookup 69 (.map (some b)) (.string p) false).run Tryd.prog w = .ok (.pointer (some ⟨q, 0, none⟩)) w ∧ φ q = some (f.f1, f.f2) := by
  obtain ⟨v, ps, hrun, hv⟩ := World.ownsMap.lookup h lawK Tryd.underlying69 (zeroP w) (elemR_nil φ) (keyOf_string_mk Tryd.underlying9 (Nat.le_trans hp (by decide) : p.size ≤ maxLen))
  rw [fdat_find, hf] at hv
  rcases elemR_inv hv with ⟨_, e⟩ | ⟨q, g, rfl, hq, e⟩
  · cases e
  · have := fagg_inj (f := (f.f1, f.f2)) (g := g) (congrArg Prod.fst e)
    exact ⟨q, hrun, by rw [hq, this]⟩
theorem Img.look_none {p : ByteArray} (h : Img w φ b L) (hp : p.size ≤ 100000) (hf : findF L p = none) :
    (Instr.lookup 69 (.map (some b)) (.string p) false).run Tryd.prog w = .ok (.pointer none) w := by
  obtain ⟨v, ps, hrun, hv⟩ := World.ownsMap.lookup h lawK Tryd.underlying69 (zeroP w) (elemR_nil φ) (keyOf_string_mk Tryd.underlying9 (Nat.le_trans hp (by decide) : p.size ≤ maxLen))
  rw [fdat_find, hf] at hv
  rcases elemR_inv hv with ⟨rfl, e⟩ | ⟨q, g, rfl, hq, e⟩
  · exact hrun
  · cases e
theorem Img.len (h : Img w φ b L) (ty : TypeId) : (Builtin.len_ #[69] ty #[.map (some b)]).run Tryd.prog w = .ok (.int .i64 L.length) w := by
  have := World.ownsMap.len h Tryd.underlying69 ty
  rw [fdat_size] at this
  exact this
theorem Img.store (h : Img w φ b L) (hl : L.length ≤ 1000000) {q : Nat} {f : Fl} (hq : φ q = some (f.f1, f.f2)) (hp : f.f0.size ≤ 100000) :
    ∃ w', (Instr.mapUpdate 69 (.map (some b)) (.string f.f0) (.pointer (some ⟨q, 0, none⟩))).run Tryd.prog w = .ok () w' ∧ Img w' φ b (putF L f) ∧ w.mapTurned w' b := by
  obtain ⟨w', h1, h2, h3⟩ := World.ownsMap.store h lawK Tryd.underlying69 (Nat.lt_of_le_of_lt hl (by decide)) (keyOf_string_mk Tryd.underlying9 (Nat.le_trans hp (by decide) : f.f0.size ≤ maxLen)) (elemR_mk hq)
  rw [fagg_fval, fdat_put] at h2
  exact ⟨w', h1, Img.mk h2, h3⟩
theorem Img.drop (h : Img w φ b L) {p : ByteArray} (hp : p.size ≤ 100000) (ty : TypeId) :
    ∃ w', (Builtin.delete_ #[69, 9] ty #[.map (some b), .string p]).run Tryd.prog w = .ok (.tuple #[]) w' ∧ Img w' φ b (dropF L p) ∧ w.mapTurned w' b := by
  obtain ⟨w', h1, h2, h3⟩ := World.ownsMap.drop h lawK Tryd.underlying69 (keyOf_string_mk Tryd.underlying9 (Nat.le_trans hp (by decide) : p.size ≤ maxLen)) ty
  rw [fdat_del] at h2
  exact ⟨w', h1, Img.mk h2, h3⟩
end
theorem turned_chg {w w' : World} {b : Nat} (h : w.mapTurned w' b) : Chg (fun k => k = b) w w' :=
  (Chg.refl _ w).grown h.grown (fun k e _ => (Option.some.inj e).symm)
section
variable {ops : Array Oper} {rest : List Oper} {o : Oper} {a : Act} {Q : Exit → Act → World → Prop} {φ : Phi} {L : List Fl}
/-- A store into a map of files, at the operation. -/
theorem wpList_store_img (w : World) (hg : o.guard = none) (m x v : Operand) (hop : o.op = Op.mapUpdate 69 m x v) (b q : Nat) (f : Fl) (hm : a.eval m = .map (some b)) (h : Img w φ b L) (hl : L.length ≤ 1000000) (hx : a.eval x = .string f.f0) (hv : a.eval v = .pointer (some ⟨q, 0, none⟩))
    (hq : φ q = some (f.f1, f.f2)) (hp : f.f0.size ≤ 100000) (hK : ∀ w', Img w' φ b (putF L f) → Chg (fun k => k = b) w w' → w'.heap.size = w.heap.size → wpList Tryd.prog ops Q rest (a.put o.dst undef) w') : wpList Tryd.prog ops Q (o :: rest) a w := by
  refine wpList_plain hg fun K' hK' => ?_
  obtain ⟨w', hrun, h1, h2⟩ := h.store hl hq hp
  unfold Oper.wp
  simp [execOp, hop, hm, hx, hv, hrun, Result.andThen]
  refine hK' _ _ (hK w' h1 (turned_chg h2) ?_)
  obtain ⟨es, clock, es', clock', hb, rfl⟩ := h2
  simp [ChangeMaps.setBlock]
/-- A look-up of a file that is not there. -/
theorem wpList_look_none (w : World) (hg : o.guard = none) (m x : Operand) (hop : o.op = Op.lookup 69 m x false) (b : Nat) (p : ByteArray) (hm : a.eval m = .map (some b)) (h : Img w φ b L) (hx : a.eval x = .string p) (hp : p.size ≤ 100000) (hf : findF L p = none)
    (hK : wpList Tryd.prog ops Q rest (a.put o.dst (.pointer none)) w) : wpList Tryd.prog ops Q (o :: rest) a w := by
  refine wpList_plain hg fun K' hK' => ?_
  have hrun := h.look_none hp hf
  unfold Oper.wp
  simp [execOp, hop, hm, hx, hrun, Result.andThen]
  exact hK' _ _ hK
/-- A look-up of a file that is there. -/
theorem wpList_look_some (w : World) (hg : o.guard = none) (m x : Operand) (hop : o.op = Op.lookup 69 m x false) (b : Nat) (p : ByteArray) (hm : a.eval m = .map (some b)) (h : Img w φ b L) (hx : a.eval x = .string p) (hp : p.size ≤ 100000) (f : Fl) (hf : findF L p = some f)
    (hK : ∀ q, φ q = some (f.f1, f.f2) → wpList Tryd.prog ops Q rest (a.put o.dst (.pointer (some ⟨q, 0, none⟩))) w) : wpList Tryd.prog ops Q (o :: rest) a w := by
  refine wpList_plain hg fun K' hK' => ?_
  obtain ⟨q, hrun, hq⟩ := h.look hp hf
  unfold Oper.wp
  simp [execOp, hop, hm, hx, hrun, Result.andThen]
  exact hK' _ _ (hK q hq)
/-- delete, at the operation. -/
theorem wpList_delete_img (w : World) (hg : o.guard = none) (m x : Operand) (hop : o.op = Op.call { callee := Callee.builtin Builtin.delete, args := #[m, x], argTypes := #[69, 9] }) (b : Nat) (p : ByteArray) (hm : a.eval m = .map (some b)) (h : Img w φ b L) (hx : a.eval x = .string p) (hp : p.size ≤ 100000)
    (hK : ∀ w', Img w' φ b (dropF L p) → Chg (fun k => k = b) w w' → w'.heap.size = w.heap.size → wpList Tryd.prog ops Q rest (a.put o.dst (.tuple #[])) w') : wpList Tryd.prog ops Q (o :: rest) a w := by
  refine wpList_plain hg fun K' hK' => ?_
  obtain ⟨w', hrun, h1, h2⟩ := h.drop hp o.type
  unfold Oper.wp
  simp [execOp, hop, resolve, invoke, builtin, hm, hx, hrun, Result.andThen]
  refine hK' _ _ (hK w' h1 (turned_chg h2) ?_)
  obtain ⟨es, clock, es', clock', hb, rfl⟩ := h2
  simp [ChangeMaps.setBlock]
def ptrV : Option Nat → Value
  | none => .pointer none
  | some q => .pointer (some ⟨q, 0, none⟩)
/-- The step of a range over a map of files. -/
theorem wpList_next_img (w : World) (hg : o.guard = none) (it : Operand) (hop : o.op = Op.next it false) (b r n : Nat) (left : Lit → Bool) (cnt : Nat) (hit : a.eval it = .pointer (some ⟨r, 0, none⟩)) (h : w.ranges Tryd.prog 9 (elemR φ) b r n (fdat L) left cnt)
    (hDone : cnt = 0 → (∀ kl, left kl = false) → wpList Tryd.prog ops Q rest (a.put o.dst (.tuple #[.bool false])) w)
    (hMore : ∀ (f : Fl) (q : Nat) (w' : World) (cnt' : Nat), findF L f.f0 = some f → left (.string f.f0.data.toList) = true → φ q = some (f.f1, f.f2) → w'.ranges Tryd.prog 9 (elemR φ) b r n (fdat L) (fun z => left z && !z.sameKey (.string f.f0.data.toList)) cnt' → cnt' < cnt →
      w.grownBy w' (some r) → w'.heap.size = w.heap.size → (Instr.entry (.pointer (some ⟨r, 0, none⟩))).run Tryd.prog w' = .ok (.tuple #[.string f.f0, .pointer (some ⟨q, 0, none⟩)]) w' → wpList Tryd.prog ops Q rest (a.put o.dst (.tuple #[.bool true, .string f.f0, .pointer (some ⟨q, 0, none⟩)])) w') :
    wpList Tryd.prog ops Q (o :: rest) a w := by
  refine wpList_next_ranges w hg it hop 9 lawK (elemR φ) encStr ptrV (fun key kl hk => by obtain ⟨x, hx, _⟩ := Maps.keyOf_str Tryd.underlying9 hk; exact ⟨x, hx⟩) (fun v y hv => ?_) b r n (fdat L) left cnt hit h hDone ?_
  · rcases elemR_inv hv with ⟨rfl, _⟩ | ⟨q, g, rfl, _, _⟩
    · exact ⟨none, rfl⟩
    · exact ⟨some q, rfl⟩
  · intro x c kl y w' cnt' hkey hlk hv hat hrg hlt hg2 hs hen
    obtain ⟨x', ex, rfl, _⟩ := Maps.keyOf_str Tryd.underlying9 hkey
    obtain rfl : x = x' := encStr_inj ex
    have h1 := hat (.lit (.bool false))
    have h2 := hat (.lit (.bool true))
    have e1 : (Lit.string x) = .string (⟨x.toArray⟩ : ByteArray).data.toList := rfl
    rw [e1, fdat_find] at h1 h2
    cases hf : findF L ⟨x.toArray⟩ with
    | none =>
      rw [hf] at h1 h2
      rw [← h2] at h1
      exact absurd h1 (by simp)
    | some f =>
      rw [hf] at h1
      have hx : f.f0.data.toList = x := by
        have := List.find?_some hf
        exact beq_iff_eq.1 this
      have hfe : f.f0 = ⟨x.toArray⟩ := by
        rw [← hx]
      rcases elemR_inv hv with ⟨_, e⟩ | ⟨q, g, hc, hq, e⟩
      · rw [e] at h1
        cases h1
      · have hc' : c = some q := by
          cases c with
          | none => cases hc
          | some k => simp [ptrV] at hc; rw [hc]
        subst hc'
        rw [e] at h1
        have hfg : (f.f1, f.f2) = g := fagg_inj h1
        have he : encStr x = .string f.f0 := by rw [hfe]
        rw [he] at hen ⊢
        exact hMore f q w' cnt' (by rw [hfe]; exact hf) (by rw [hx]; exact hlk) (by rw [hq, hfg]) (by rw [hx]; exact hrg) hlt hg2 hs hen
end
end Go.Proofs.YtajiidkmijeidaaDoor.Fr
/- A change is done. -/
namespace Go.Proofs.YtajiidkmijeidaaDoor.Fr
open Go.RowKit Go.Proofs.YtajiidkmijeidaaDoor.F Go.Maps
set_option linter.unusedVariables false
set_option linter.unusedSimpArgs false
/-- How a change is handed on: its kinds are counted from 0. -/
def cgV (c : Cg) : Value := .agg #[.int .i64 (c.f0 - 1), .string c.f1, .string c.f2, .int .i64 c.f3]
/-- How do ends. -/
def DoEnd (φ : Phi) (b : Nat) (L' : List Fl) (w : World) (e : Ending) (w' : World) : Prop :=
  e = .returned (.tuple #[]) ∧ ∃ φ', Ext w φ φ' ∧ FilesOK w' φ' ∧ Img w' φ' b L' ∧ Chg (fun k => k = b) w w'
theorem newBelow2 (w : World) (o o2 : Obj) : Below w.heap.size w ((w.alloc o).alloc o2) := ((Below.refl _ _).alloc (Nat.le_refl _) _).alloc (by rw [World.size_alloc]; omega) _
theorem new2 (w : World) (o : Obj) (o2 : Obj) : ((w.alloc o).alloc o2).heap[w.heap.size + 1]? = some o2 := by
  have := World.alloc_heap_new (w.alloc o) o2
  rwa [World.size_alloc] at this
theorem newBelow (w : World) (o : Obj) : Below w.heap.size w (w.alloc o) := (Below.refl _ _).alloc (Nat.le_refl _) _
/-- A new file's block beside the others. -/
theorem files_add {w W : World} {φ : Phi} {f : ByteArray × Int} {q : Nat} (hF : FilesOK w φ) (hb : Below w.heap.size w W) (hq : W.heap[q]? = some (.cells #[.string f.1, .int .i64 f.2] 75 (0, 0))) (hn : w.heap.size ≤ q) : FilesOK W (φ.add q f) := by
  intro k g e
  unfold Phi.add at e
  split at e
  next h =>
    subst h
    obtain rfl := Option.some.inj e
    exact hq
  next h => exact (hF.below hb) k g e
theorem add_self (φ : Phi) (q : Nat) (f : ByteArray × Int) : φ.add q f q = some f := by simp [Phi.add]
theorem ext_add {w : World} {φ : Phi} (hF : FilesOK w φ) (f : ByteArray × Int) {q : Nat} (h : w.heap.size ≤ q) : Ext w φ (φ.add q f) := Ext.add w φ f (fun k e => hF.lt e) h
/-- The end of a change that lays a file. -/
theorem end_add {w W w' : World} {φ : Phi} {b q : Nat} {L' : List Fl} {f : ByteArray × Int} (hF : FilesOK w φ) (hb0 : φ b = none) (hbl : b < w.heap.size) (hB : Below w.heap.size w W) (hq : W.heap[q]? = some (.cells #[.string f.1, .int .i64 f.2] 75 (0, 0))) (hn : w.heap.size ≤ q)
    (hI : Img w' (φ.add q f) b L') (hC : Chg (fun k => k = b) W w') : DoEnd φ b L' w (.returned (.tuple #[])) w' := by
  refine ⟨rfl, φ.add q f, ext_add hF f hn, (files_add hF hB hq hn).chg hC ?_, hI, (Chg.of_below hB _).trans hC fun _ _ e => e⟩
  rintro k hk rfl
  unfold Phi.add at hk
  rw [if_neg (by omega)] at hk
  exact hk hb0
/-- The part of a text that is laid. -/
def cutS (s0 : ByteArray) (part : Int) : ByteArray := if part < 0 then s0 else s0.extract 0 (min part (s0.size : Int)).toNat
theorem cutS_neg {s0 : ByteArray} {part : Int} (h : part < 0) : cutS s0 part = s0 := if_pos h
theorem cutS_pos {s0 : ByteArray} {part : Int} (h : 0 ≤ part) : cutS s0 part = s0.extract 0 (min part (s0.size : Int)).toNat := if_neg (by omega)
section
variable (p s0 : ByteArray) (tm part : Int) (b : Nat) (L : List Fl) (φ : Phi) (w : World) (hF : FilesOK w φ) (hI : Img w φ b L) (hb : φ b = none) (hL : L.length ≤ 100000) (hp : p.size ≤ 100000) (hs0 : s0.size ≤ 1000000000) (hpart : part ≤ 9223372036854775807)
include hF hI hb hL hp hs0 hpart
set_option maxHeartbeats 4000000 in
set_option maxRecDepth 100000 in
theorem do_written : Calls Tryd.prog 44 #[cgV ⟨1, p, s0, tm⟩, .map (some b), .int .i64 part] w (DoEnd φ b (putF L ⟨p, cutS s0 part, tm⟩) w) := by
  have HF := Lib.hid hF
  have HI := Lib.hid hI
  have HB := Lib.hid hb
  have hbl := hI.lt
  have HX : Hid (∀ (W : World) (q : Nat) (g : ByteArray × Int), Below w.heap.size w W → w.heap.size ≤ q → Img W (φ.add q g) b L) := fun W q g hB hq => (hI.below hB).ext (ext_add hF g hq).keeps
  clear hF hI hb
  unfold cgV
  rcases Int.lt_or_le part 0 with h1 | h1
  all_goals
    first
      | rw [cutS_neg h1]
      | rw [cutS_pos h1]
    cases hf : findF L p
    all_goals
      have HN := Lib.hid hf
      clear hf
      go_enter Tryd.func44, Tryd.ntmps44
      go_wp2_with (first
        | (at_lookup; refine wpList_look_none _ rfl _ _ rfl b p rfl (HI.out.below (newBelow _ _)) rfl hp HN.out ?_)
        | (at_lookup; refine wpList_look_some _ rfl _ _ rfl b p rfl (HI.out.below (newBelow _ _)) rfl hp _ HN.out ?_; intro q hq)
        | (at_mapUpdate; have _t : part < 0 := h1; refine wpList_store_img (φ := φ.add (w.heap.size + 1) (s0, tm)) _ rfl _ _ _ rfl b (w.heap.size + 1) ⟨p, s0, tm⟩ rfl (HX.out _ _ _ (newBelow2 _ _ _) (Nat.le_succ _)) (Nat.le_trans hL (by decide)) rfl rfl (add_self _ _ _) hp ?_; intro w' hI' hC hz)
        | (at_mapUpdate; refine wpList_store_img (φ := φ.add (w.heap.size + 1) (s0.extract 0 (min part (s0.size : Int)).toNat, tm)) _ rfl _ _ _ rfl b (w.heap.size + 1) ⟨p, s0.extract 0 (min part (s0.size : Int)).toNat, tm⟩ rfl (HX.out _ _ _ (newBelow2 _ _ _) (Nat.le_succ _)) (Nat.le_trans hL (by decide)) rfl rfl (add_self _ _ _) hp ?_; intro w' hI' hC hz))
      go_end0
      exact end_add (f := (_, _)) HF.out HB.out hbl (newBelow2 _ _ _) (new2 _ _ _) (Nat.le_succ _) hI' hC
set_option maxHeartbeats 4000000 in
set_option maxRecDepth 100000 in
theorem do_app_none (hf : findF L p = none) : Calls Tryd.prog 44 #[cgV ⟨2, p, s0, tm⟩, .map (some b), .int .i64 part] w (DoEnd φ b (putF L ⟨p, cutS s0 part, tm⟩) w) := by
  have HF := Lib.hid hF
  have HI := Lib.hid hI
  have HB := Lib.hid hb
  have hbl := hI.lt
  have HX : Hid (∀ (W : World) (q : Nat) (g : ByteArray × Int), Below w.heap.size w W → w.heap.size ≤ q → Img W (φ.add q g) b L) := fun W q g hB hq => (hI.below hB).ext (ext_add hF g hq).keeps
  have HN := Lib.hid hf
  clear hF hI hb hf
  unfold cgV
  rcases Int.lt_or_le part 0 with h1 | h1
  all_goals
    first
      | rw [cutS_neg h1]
      | rw [cutS_pos h1]
    go_enter Tryd.func44, Tryd.ntmps44
    go_wp2_with (first
      | (at_lookup; refine wpList_look_none _ rfl _ _ rfl b p rfl (HI.out.below (newBelow _ _)) rfl hp HN.out ?_)
      | (at_mapUpdate; have _t : part < 0 := h1; refine wpList_store_img (φ := φ.add (w.heap.size + 1) (s0, tm)) _ rfl _ _ _ rfl b (w.heap.size + 1) ⟨p, s0, tm⟩ rfl (HX.out _ _ _ (newBelow2 _ _ _) (Nat.le_succ _)) (Nat.le_trans hL (by decide)) rfl rfl (add_self _ _ _) hp ?_; intro w' hI' hC hz)
      | (at_mapUpdate; refine wpList_store_img (φ := φ.add (w.heap.size + 1) (s0.extract 0 (min part (s0.size : Int)).toNat, tm)) _ rfl _ _ _ rfl b (w.heap.size + 1) ⟨p, s0.extract 0 (min part (s0.size : Int)).toNat, tm⟩ rfl (HX.out _ _ _ (newBelow2 _ _ _) (Nat.le_succ _)) (Nat.le_trans hL (by decide)) rfl rfl (add_self _ _ _) hp ?_; intro w' hI' hC hz))
    go_end0
    exact end_add (f := (_, _)) HF.out HB.out hbl (newBelow2 _ _ _) (new2 _ _ _) (Nat.le_succ _) hI' hC
set_option maxHeartbeats 4000000 in
set_option maxRecDepth 100000 in
theorem do_app_some (f : Fl) (hf : findF L p = some f) (hf1 : f.f1.size ≤ 1000000000000) : Calls Tryd.prog 44 #[cgV ⟨2, p, s0, tm⟩, .map (some b), .int .i64 part] w (DoEnd φ b (putF L ⟨p, f.f1 ++ cutS s0 part, tm⟩) w) := by
  have HF := Lib.hid hF
  have HI := Lib.hid hI
  have HB := Lib.hid hb
  have hbl := hI.lt
  have HX : Hid (∀ (W : World) (q : Nat) (g : ByteArray × Int), Below w.heap.size w W → w.heap.size ≤ q → Img W (φ.add q g) b L) := fun W q g hB hq => (hI.below hB).ext (ext_add hF g hq).keeps
  have HN := Lib.hid hf
  clear hF hI hb hf
  unfold cgV
  rcases Int.lt_or_le part 0 with h1 | h1
  all_goals
    first
      | rw [cutS_neg h1]
      | rw [cutS_pos h1]
    go_enter Tryd.func44, Tryd.ntmps44
    go_wp2_with (first
      | (at_lookup; refine wpList_look_some _ rfl _ _ rfl b p rfl (HI.out.below (newBelow _ _)) rfl hp _ HN.out ?_; intro q hq))
    have hq0 := (HF.out.below (newBelow w (.cells #[.int .i64 1, .string p, .string s0, .int .i64 tm] 79))).cell0 hq
    first
      | (have _t : part < 0 := h1
         obtain ⟨w', hrun, hI', hturn⟩ := (HX.out (((w.alloc (.cells #[.int .i64 1, .string p, .string s0, .int .i64 tm] 79)).alloc (.cells #[.string (f.f1 ++ s0), .int .i64 tm] 75)).drew) (w.heap.size + 1) (f.f1 ++ s0, tm) (newBelow2 _ _ _).drew (Nat.le_succ _)).store (f := ⟨p, f.f1 ++ s0, tm⟩) (Nat.le_trans hL (by decide)) (add_self _ _ _) hp)
      | (obtain ⟨w', hrun, hI', hturn⟩ := (HX.out (((w.alloc (.cells #[.int .i64 1, .string p, .string s0, .int .i64 tm] 79)).alloc (.cells #[.string (f.f1 ++ s0.extract 0 (min part (s0.size : Int)).toNat), .int .i64 tm] 75)).drew) (w.heap.size + 1) (f.f1 ++ s0.extract 0 (min part (s0.size : Int)).toNat, tm) (newBelow2 _ _ _).drew (Nat.le_succ _)).store (f := ⟨p, f.f1 ++ s0.extract 0 (min part (s0.size : Int)).toNat, tm⟩) (Nat.le_trans hL (by decide)) (add_self _ _ _) hp)
    have hturn' := Lib.hid hturn
    have hI2 := Lib.hid hI'
    clear hturn hI'
    go_region
    go_wp2
    go_end0
    exact end_add (f := (_, _)) HF.out HB.out hbl (newBelow2 _ _ _).drew (new2 _ _ _) (Nat.le_succ _) hI2.out (turned_chg hturn'.out)
end
theorem end_same {w w' : World} {φ : Phi} {b : Nat} {L : List Fl} (hF : FilesOK w φ) (hI : Img w φ b L) (h : Below w.heap.size w w') : DoEnd φ b L w (.returned (.tuple #[])) w' := ⟨rfl, φ, Ext.refl _ _, hF.below h, hI.below h, Chg.of_below h _⟩
theorem end_drop {w W w' : World} {φ : Phi} {b : Nat} {L' : List Fl} (hF : FilesOK w φ) (hb : φ b = none) (hB : Below w.heap.size w W) (hI' : Img w' φ b L') (hC : Chg (fun k => k = b) W w') : DoEnd φ b L' w (.returned (.tuple #[])) w' :=
  ⟨rfl, φ, Ext.refl _ _, (hF.below hB).chg hC (fun k hk e => hk (by rw [e]; exact hb)), hI', (Chg.of_below hB _).trans hC fun _ _ e => e⟩
section
variable (p s0 : ByteArray) (tm : Int) (b : Nat) (L : List Fl) (φ : Phi) (w : World) (hF : FilesOK w φ) (hI : Img w φ b L) (hb : φ b = none) (hL : L.length ≤ 100000) (hp : p.size ≤ 100000)
include hF hI hb hL hp
set_option linter.unusedSectionVars false
set_option maxHeartbeats 4000000 in
set_option maxRecDepth 100000 in
theorem do_none (kind : Int) (hk : kind = 3 ∨ kind = 4) (hf : findF L p = none) : Calls Tryd.prog 44 #[cgV ⟨kind, p, s0, tm⟩, .map (some b), .int .i64 (-1)] w (DoEnd φ b L w) := by
  have HF := Lib.hid hF
  have HI := Lib.hid hI
  have HN := Lib.hid hf
  clear hF hI hb hf
  unfold cgV
  rcases hk with rfl | rfl
  all_goals
    go_enter Tryd.func44, Tryd.ntmps44
    go_wp2_with (first
      | (at_lookup; refine wpList_look_none _ rfl _ _ rfl b p rfl (HI.out.below (newBelow _ _)) rfl hp HN.out ?_))
    go_end0
    exact end_same HF.out HI.out (newBelow _ _)
set_option maxHeartbeats 4000000 in
set_option maxRecDepth 100000 in
theorem do_removed (f : Fl) (hf : findF L p = some f) : Calls Tryd.prog 44 #[cgV ⟨3, p, s0, tm⟩, .map (some b), .int .i64 (-1)] w (DoEnd φ b (dropF L p) w) := by
  have HF := Lib.hid hF
  have HI := Lib.hid hI
  have HB := Lib.hid hb
  have HN := Lib.hid hf
  have hbl := hI.lt
  clear hF hI hb hf
  unfold cgV
  go_enter Tryd.func44, Tryd.ntmps44
  go_wp2_with (first
    | (at_lookup; refine wpList_look_some _ rfl _ _ rfl b p rfl (HI.out.below (newBelow _ _)) rfl hp _ HN.out ?_; intro q hq)
    | (at_delete; refine wpList_delete_img _ rfl _ _ rfl b p rfl (HI.out.below (newBelow _ _)) rfl hp ?_; intro w' hI' hC hz; have hc0 := hC.cell (p := ⟨w.heap.size, 0, none⟩) (by simp) (by show w.heap.size ≠ b; omega); have HC := Lib.hid hC; have HI2 := Lib.hid hI'; clear hC hI' hz))
  go_end0
  exact end_drop HF.out HB.out (newBelow _ _) HI2.out HC.out
set_option maxHeartbeats 4000000 in
set_option maxRecDepth 100000 in
theorem do_renamed (f : Fl) (hf : findF L p = some f) (hs0 : s0.size ≤ 100000) : Calls Tryd.prog 44 #[cgV ⟨4, p, s0, tm⟩, .map (some b), .int .i64 (-1)] w (DoEnd φ b (putF (dropF L p) ⟨s0, f.f1, f.f2⟩) w) := by
  have HF := Lib.hid hF
  have HI := Lib.hid hI
  have HB := Lib.hid hb
  have HN := Lib.hid hf
  have hbl := hI.lt
  have hdl : (dropF L p).length ≤ 1000000 := Nat.le_trans (List.length_filter_le _ _) (Nat.le_trans hL (by decide))
  clear hF hI hb hf
  unfold cgV
  go_enter Tryd.func44, Tryd.ntmps44
  go_wp2_with (first
    | (at_lookup; refine wpList_look_some _ rfl _ _ rfl b p rfl (HI.out.below (newBelow _ _)) rfl hp _ HN.out ?_; intro q hq; have HQ := Lib.hid hq; clear hq)
    | (at_delete; refine wpList_delete_img _ rfl _ _ rfl b p rfl (HI.out.below (newBelow _ _)) rfl hp ?_; intro w' hI' hC hz; have hc0 := hC.cell (p := ⟨w.heap.size, 0, none⟩) (by simp) (by show w.heap.size ≠ b; omega); have hc2 := hC.cell (p := ⟨w.heap.size, 2, none⟩) (by simp) (by show w.heap.size ≠ b; omega); have HC := Lib.hid hC; have HI2 := Lib.hid hI'; clear hC hI' hz)
    | (at_mapUpdate; refine wpList_store_img (φ := φ) _ rfl _ _ _ rfl b q ⟨s0, f.f1, f.f2⟩ rfl HI2.out hdl rfl rfl HQ.out hs0 ?_; intro w2 hI3 hC3 hz3; have HC3 := Lib.hid hC3; have HI3 := Lib.hid hI3; clear hC3 hI3 hz3))
  go_end0
  exact end_drop HF.out HB.out (newBelow _ _) HI3.out (HC.out.trans HC3.out fun _ _ e => e)
end
end Go.Proofs.YtajiidkmijeidaaDoor.Fr
