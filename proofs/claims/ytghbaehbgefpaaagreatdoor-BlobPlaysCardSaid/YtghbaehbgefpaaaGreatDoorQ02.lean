import Derived.Test.YtghbaehbgefpaaaGreatDoorProg
import Derived.Below
import Derived.Deep.Draws
import Derived.Deep.AppendLies
import Derived.Maps.AppendAt
import Derived.OwnWalk
import Derived.Laws.BytesArg
import Derived.Laws.MakeOwn
import Derived.Laws.OwnMore
import Derived.Deep.OwnRows
import Derived.Tactics
import Derived.Lib.ConvBytes
import Derived.Laws.Slices
import Derived.WalkKit
import Derived.KernelRfl
import Derived.RowKit3
import Derived.Deep.LoopGhost
import Derived.Deep.QuietTactic
import Derived.BigQuiet
import Derived.WideLaws
import Derived.Deep.DeepCutAuto
import Derived.Deep.CutBlock
import Derived.Deep.RegionHeld3
import Derived.Laws.Rows
import Derived.Lib.AppendStr
import Derived.ArgAppend
import Derived.Laws.IdiomCopy
import Derived.OrdersHeld
import Derived.Laws.BitsLemmas
import Derived.RowKit
import Derived.Test.YtghbaehbgefpaaaGreatDoorQ00
import Derived.Test.YtghbaehbgefpaaaGreatDoorQ01
import Derived.Lib.Hide
import Derived.Maps.RangeWalk
import Derived.Maps.OwnSet
import Derived.Maps.OwnOps
import Derived.Maps.Own
import Derived.Sort.KeysCollected
import Derived.Outline
/- Several texts of this session in one: the walks of the functions that the laws reach, and what they tell. -/
set_option linter.unusedVariables false
set_option linter.unusedSimpArgs false
namespace Go.Proofs.YtghbaehbgefpaaaGreatDoor.F
open Go.RowKit Go.Proofs.YtghbaehbgefpaaaGreatDoorW.PrintWords Go.Proofs.YtghbaehbgefpaaaGreatDoorW.PrintLast Go.Proofs.YtghbaehbgefpaaaGreatDoorW.PrintMore
attribute [local go_sem] max2_int min2_int max_two min_two max_three min_three max_four min_four   -- for this text's walks alone
theorem info89 : (Tryz.prog.info? 89).map (fun i => (i.zero, i.size, i.bytes)) = some (some (.agg #[(.string ⟨#[]⟩), (.string ⟨#[]⟩), (.int .i64 0)]), 3, 40) := by kernel_rfl
-- the values' own types
structure S53 where
  f0 : Int
  f1 : Int
  f2 : Int
  f3 : ByteArray
  f4 : (List ByteArray)
def z53 : S53 := ⟨(0 : Int), (0 : Int), (0 : Int), (⟨#[]⟩ : ByteArray), ([] : List ByteArray)⟩
def k53 : Kd S53 := Kd.iso (Kd.pair (Kd.int .i64) (Kd.pair (Kd.int .i64) (Kd.pair (Kd.int .i64) (Kd.pair Kd.string (Kd.slice 9 Kd.string))))) (fun x : S53 => (x.f0, x.f1, x.f2, x.f3, x.f4))
theorem k53_open {w : World} {x : S53} {cs : List Value} (h : k53.K w x cs) : ∃ A4 c4, cs = [.int .i64 x.f0, .int .i64 x.f1, .int .i64 x.f2, .string x.f3, .slice A4 x.f4.length c4] ∧ x.f4.length ≤ c4 ∧ Kd.string.C w A4 x.f4.length x.f4 := by
  obtain ⟨_, _, rfl, rfl, ⟨_, _, rfl, rfl, ⟨_, _, rfl, rfl, ⟨_, _, rfl, rfl, ⟨A4, c4, rfl, l4, g4⟩⟩⟩⟩⟩ := h
  exact ⟨A4, c4, rfl, l4, g4⟩
def rd_T53 (xs : List S53) (i : Int) : S53 := xs.getD i.toNat z53
theorem at_T53 {w : World} {A : Option Addr} {n : Nat} {xs : List S53} (h : Kd.C k53 w A n xs) (i : Int) (h0 : 0 ≤ i) (h1 : i < n) : ∃ ad A4 c4, A = some ad ∧ w.cell? (ad.add (i.toNat * 5)) = some (.int .i64 (rd_T53 xs i).f0) ∧ w.cell? ⟨(ad.add (i.toNat * 5)).block, (ad.add (i.toNat * 5)).off + 1, none⟩ = some (.int .i64 (rd_T53 xs i).f1) ∧ w.cell? ⟨(ad.add (i.toNat * 5)).block, (ad.add (i.toNat * 5)).off + 2, none⟩ = some (.int .i64 (rd_T53 xs i).f2) ∧ w.cell? ⟨(ad.add (i.toNat * 5)).block, (ad.add (i.toNat * 5)).off + 3, none⟩ = some (.string (rd_T53 xs i).f3) ∧ w.cell? ⟨(ad.add (i.toNat * 5)).block, (ad.add (i.toNat * 5)).off + 4, none⟩ = some (.slice A4 (rd_T53 xs i).f4.length c4) ∧ (rd_T53 xs i).f4.length ≤ c4 ∧ Kd.string.C w A4 (rd_T53 xs i).f4.length (rd_T53 xs i).f4 := by
  obtain ⟨ad, c, e, _, hK, hc0⟩ := Kd.C_get h z53 i h0 h1
  have hc : ∀ j u, c[j]? = some u → w.cell? (ad.add (i.toNat * 5 + j)) = some u := hc0
  obtain ⟨A4, c4, rfl, l4, g4⟩ := k53_open hK
  exact ⟨ad, A4, c4, e, hc 0 _ rfl, by rw [← add_field _ _ 1 (by omega)]; exact hc 1 _ rfl, by rw [← add_field _ _ 2 (by omega)]; exact hc 2 _ rfl, by rw [← add_field _ _ 3 (by omega)]; exact hc 3 _ rfl, by rw [← add_field _ _ 4 (by omega)]; exact hc 4 _ rfl, l4, g4⟩
structure S89 where
  f0 : ByteArray
  f1 : ByteArray
  f2 : Int
def z89 : S89 := ⟨(⟨#[]⟩ : ByteArray), (⟨#[]⟩ : ByteArray), (0 : Int)⟩
def k89 : Kd S89 := Kd.iso (Kd.pair Kd.string (Kd.pair Kd.string (Kd.int .i64))) (fun x : S89 => (x.f0, x.f1, x.f2))
theorem k89_open {w : World} {x : S89} {cs : List Value} (h : k89.K w x cs) : cs = [.string x.f0, .string x.f1, .int .i64 x.f2] := by
  obtain ⟨_, _, rfl, rfl, ⟨_, _, rfl, rfl, rfl⟩⟩ := h
  exact rfl
theorem k89_mkM (w : World) (base : Nat) (ok : Nat → Prop) (x : S89)  : k89.M w base ok x [.string x.f0, .string x.f1, .int .i64 x.f2] := ⟨[.string x.f0], [.string x.f1, .int .i64 x.f2], rfl, rfl, ⟨[.string x.f1], [.int .i64 x.f2], rfl, rfl, rfl⟩⟩
def rd_T89 (xs : List S89) (i : Int) : S89 := xs.getD i.toNat z89
theorem at_T89 {w : World} {A : Option Addr} {n : Nat} {xs : List S89} (h : Kd.C k89 w A n xs) (i : Int) (h0 : 0 ≤ i) (h1 : i < n) : ∃ ad , A = some ad ∧ w.cell? (ad.add (i.toNat * 3)) = some (.string (rd_T89 xs i).f0) ∧ w.cell? ⟨(ad.add (i.toNat * 3)).block, (ad.add (i.toNat * 3)).off + 1, none⟩ = some (.string (rd_T89 xs i).f1) ∧ w.cell? ⟨(ad.add (i.toNat * 3)).block, (ad.add (i.toNat * 3)).off + 2, none⟩ = some (.int .i64 (rd_T89 xs i).f2) := by
  obtain ⟨ad, c, e, _, hK, hc0⟩ := Kd.C_get h z89 i h0 h1
  have hc : ∀ j u, c[j]? = some u → w.cell? (ad.add (i.toNat * 3 + j)) = some u := hc0
  obtain rfl := k89_open hK
  exact ⟨ad, e, hc 0 _ rfl, by rw [← add_field _ _ 1 (by omega)]; exact hc 1 _ rfl, by rw [← add_field _ _ 2 (by omega)]; exact hc 2 _ rfl⟩
end Go.Proofs.YtghbaehbgefpaaaGreatDoor.F
namespace Go.Proofs.YtghbaehbgefpaaaGreatDoor.Fr
open Go.RowKit
structure Chg (S : Nat → Prop) (w W : World) : Prop where
  os : W.os = w.os
  tape : W.tape = w.tape
  output : W.output = w.output
  size : w.heap.size ≤ W.heap.size
  block : ∀ k, k < w.heap.size → ¬ S k → W.heap[k]? = w.heap[k]?
section
variable {S S' : Nat → Prop} {w W W2 : World}
theorem Chg.refl (S : Nat → Prop) (w : World) : Chg S w w := ⟨rfl, rfl, rfl, Nat.le_refl _, fun _ _ _ => rfl⟩
theorem Chg.of_below (h : Below w.heap.size w W) (S : Nat → Prop) : Chg S w W := ⟨h.os, h.tape, h.output, h.size, fun k hk _ => h.block k hk⟩
theorem Chg.mono (h : Chg S w W) (hs : ∀ k, k < w.heap.size → S k → S' k) : Chg S' w W := ⟨h.os, h.tape, h.output, h.size, fun k hk hn => h.block k hk fun e => hn (hs k hk e)⟩
theorem Chg.trans (h : Chg S w W) (k : Chg S' W W2) (hs : ∀ i, i < w.heap.size → S' i → S i) : Chg S w W2 :=
  ⟨k.os.trans h.os, k.tape.trans h.tape, k.output.trans h.output, Nat.le_trans h.size k.size, fun i hi hn => (k.block i (Nat.lt_of_lt_of_le hi h.size) fun e => hn (hs i hi e)).trans (h.block i hi hn)⟩
theorem Chg.below (h : Chg S w W) (hb : Below W.heap.size W W2) : Chg S w W2 := h.trans (Chg.of_below hb fun _ => False) fun _ _ e => e.elim
theorem Chg.alloc (h : Chg S w W) (o : Obj) : Chg S w (W.alloc o) := h.below ((Below.refl _ _).alloc (Nat.le_refl _) _)
theorem Chg.drew (h : Chg S w W) : Chg S w W.drew := ⟨h.os, h.tape, h.output, h.size, h.block⟩
theorem Chg.setCell (h : Chg S w W) {p : Addr} (hp : p.block < w.heap.size → S p.block) (u : Value) : Chg S w (W.setCell p u) :=
  ⟨h.os, h.tape, h.output, by simpa using h.size, fun k hk hn => (Below.heap_setCell W p u k fun e => hn (by subst e; exact hp hk)).trans (h.block k hk hn)⟩
theorem Chg.grown (h : Chg S w W) {row : Option Nat} (hg : W.grownBy W2 row) (hr : ∀ k, row = some k → k < w.heap.size → S k) : Chg S w W2 :=
  ⟨hg.os.trans h.os, hg.tape.trans h.tape, hg.output.trans h.output, Nat.le_trans h.size hg.size, fun k hk hn => (hg.block k (Nat.lt_of_lt_of_le hk h.size) fun e => hn (hr k e.symm hk)).trans (h.block k hk hn)⟩
theorem Chg.to_below (h : Chg S w W) {B : Nat} (hB : B ≤ w.heap.size) (hs : ∀ k, S k → B ≤ k) : Below B w W :=
  ⟨h.os, h.tape, h.output, h.size, fun k hk => h.block k (by omega) fun e => by have := hs k e; omega⟩
theorem Chg.cell (h : Chg S w W) {p : Addr} (hp : p.block < w.heap.size) (hn : ¬ S p.block) : W.cell? p = w.cell? p := World.cell?_of_block (h.block _ hp hn)
end
end Go.Proofs.YtghbaehbgefpaaaGreatDoor.Fr
namespace Go.Proofs.YtghbaehbgefpaaaGreatDoor.Fr
open Go.RowKit Go.Proofs.YtghbaehbgefpaaaGreatDoor.F
abbrev Fl := S89
structure Cg where
  f0 : Int
  f1 : ByteArray
  f2 : ByteArray
  f3 : Int
def ltB (a b : ByteArray) : Bool := bytesBefore a.data.toList b.data.toList
def dropF (l : List Fl) (p : ByteArray) : List Fl := l.filter fun f => !(f.f0.data.toList == p.data.toList)
def insF (f : Fl) : List Fl → List Fl
  | [] => [f]
  | g :: r => if ltB f.f0 g.f0 = true then f :: g :: r else g :: insF f r
def putF (l : List Fl) (f : Fl) : List Fl := insF f (dropF l f.f0)
def findF (l : List Fl) (p : ByteArray) : Option Fl := l.find? fun f => f.f0.data.toList == p.data.toList
def textF (l : List Fl) (p : ByteArray) : ByteArray := match findF l p with | some f => f.f1 | none => ⟨#[]⟩
def afterF (l : List Fl) (c : Cg) : List Fl :=
  if c.f0 = 1 then putF l ⟨c.f1, c.f2, c.f3⟩
  else if c.f0 = 2 then putF l ⟨c.f1, textF l c.f1 ++ c.f2, c.f3⟩
  else if c.f0 = 3 then dropF l c.f1
  else match findF l c.f1 with
    | none => l
    | some f => putF (dropF l c.f1) ⟨c.f2, f.f1, f.f2⟩
def usedF (l : List Fl) : Nat := (l.map fun f => f.f1.size).sum
def wayF (a b : ByteArray) : Bool := (a.data.toList ++ [47]).isPrefixOf b.data.toList
abbrev DW := DataW Unit
def fval (f : Fl) : DW := .agg [.lit (.string f.f1.data.toList), .lit (.int .i64 f.f2)]
def fent (f : Fl) : Lit × DW := (.string f.f0.data.toList, fval f)
def fdat (l : List Fl) : DW := .map (l.map fent)
theorem fent_before (f g : Fl) : (fent f).1.before (fent g).1 = ltB f.f0 g.f0 := rfl
theorem fdat_ins (f : Fl) (l : List Fl) : DataW.insert (fent f) (l.map fent) = (insF f l).map fent := by
  induction l with
  | nil => rfl
  | cons g r ih =>
    rw [List.map_cons, DataW.insert, fent_before, insF]
    by_cases h : ltB f.f0 g.f0 = true
    · rw [if_pos h, if_pos h]; rfl
    · rw [if_neg h, if_neg h, ih]; rfl
theorem fdat_filter (l : List Fl) (p : ByteArray) : (l.map fent).filter (fun x => !x.1.sameKey (.string p.data.toList)) = (dropF l p).map fent := by
  unfold dropF
  rw [List.filter_map]
  rfl
theorem fdat_put (l : List Fl) (f : Fl) : (fdat l).put (.string f.f0.data.toList) (fval f) = fdat (putF l f) := by
  show DataW.map (DataW.insert (fent f) ((l.map fent).filter _)) = DataW.map ((insF f (dropF l f.f0)).map fent)
  rw [fdat_filter, fdat_ins]
theorem fdat_del (l : List Fl) (p : ByteArray) : (fdat l).del (.string p.data.toList) = fdat (dropF l p) := by
  show DataW.map ((l.map fent).filter _) = DataW.map ((dropF l p).map fent)
  rw [fdat_filter]
theorem fdat_find (l : List Fl) (p : ByteArray) (z : DW) : (fdat l).atKey (.string p.data.toList) z = match findF l p with | some f => fval f | none => z := by
  unfold fdat DataW.atKey findF
  simp only [List.find?_map]
  have e : ((fun x : Lit × DW => x.1.sameKey (.string p.data.toList)) ∘ fent) = fun f : Fl => f.f0.data.toList == p.data.toList := rfl
  rw [e]
  cases l.find? fun f => f.f0.data.toList == p.data.toList <;> rfl
theorem fdat_has (l : List Fl) (p : ByteArray) : Maps.has (fdat l) (.string p.data.toList) = (findF l p).isSome := by
  show (l.map fent).any _ = _
  unfold findF
  rw [List.any_map]
  show l.any (fun f : Fl => f.f0.data.toList == p.data.toList) = _
  induction l with
  | nil => rfl
  | cons f r ih =>
    rw [List.any_cons, List.find?_cons]
    cases h : f.f0.data.toList == p.data.toList
    · rw [Bool.false_or]; exact ih
    · rfl
theorem fdat_size (l : List Fl) : Maps.size (fdat l) = l.length := by
  show (l.map fent).length = _
  rw [List.length_map]
end Go.Proofs.YtghbaehbgefpaaaGreatDoor.Fr
namespace Go.Proofs.YtghbaehbgefpaaaGreatDoor.Fr
open Go.RowKit Go.Proofs.YtghbaehbgefpaaaGreatDoor.F Go.Proofs.YtghbaehbgefpaaaGreatDoorW.PrintWords
def wayR (a b : ByteArray) : Bool := decide (a.size < b.size) && (b.data.toList.take a.size == a.data.toList) && (b.data.toList[a.size]? == some 47)
def cooperageref5_way.f (a b : ByteArray) : Option Bool := some (wayR a b)
theorem wayR_true {a b : ByteArray} (h1 : a.size < b.size) (h2 : (b.extract 0 a.size).toList = a.toList) : wayR a b = ((b[a.size].toNat : Int) == 47) := by
  unfold wayR
  rw [ByteArray.toList_eq, ByteArray.toList_eq] at h2
  have h2' : b.data.toList.take a.size = a.data.toList := by
    rw [← h2]
    simp
  have hlt : a.size < b.data.toList.length := by simpa using h1
  rw [decide_eq_true h1, h2', List.getElem?_eq_getElem hlt, beq_self_eq_true, Bool.true_and, Bool.true_and]
  have hg : b.data.toList[a.size] = b[a.size] := by simp [ByteArray.getElem_eq_getElem_data]
  rw [hg, Bool.eq_iff_iff, beq_iff_eq, beq_iff_eq]
  constructor
  · intro h
    rw [Option.some.inj h]
    rfl
  · intro h
    exact congrArg some (UInt8.toNat_inj.1 (by show _ = 47; omega))
theorem wayR_false {a b : ByteArray} (h2 : ¬ (b.extract 0 a.size).toList = a.toList) : wayR a b = false := by
  unfold wayR
  rw [ByteArray.toList_eq, ByteArray.toList_eq] at h2
  have h2' : (b.data.toList.take a.size == a.data.toList) = false := by
    rw [beq_eq_false_iff_ne]
    intro h
    apply h2
    rw [← h]
    simp
  rw [h2']
  simp
set_option maxHeartbeats 800000 in
theorem way_walk (a b : ByteArray) (w : World) : Calls Tryz.prog 101 #[.string a, .string b] w fun e w' => e = .returned (.bool (wayR a b)) ∧ Drawn0 w w' := by
  by_cases h1 : a.size < b.size
  · have h1' : (a.size : Int) < (b.size : Int) := by omega
    have h2' : (a.size : Int) ≤ (b.size : Int) := by omega
    by_cases h2 : (b.extract 0 a.size).toList = a.toList
    · have h3 := Lib.hid (wayR_true h1 h2)
      have he : ((b.extract 0 a.size).toList == a.toList) = true := beq_iff_eq.2 h2
      clear h2
      go_enter Tryz.func101, Tryz.ntmps101
      go_wp2
      go_ret
      exact ⟨by rw [h3.out]; rfl, Drawn0.refl _⟩
    · have h3 := Lib.hid (wayR_false h2)
      have he : ((b.extract 0 a.size).toList == a.toList) = false := by simpa using h2
      clear h2
      go_enter Tryz.func101, Tryz.ntmps101
      go_wp2
      go_ret
      exact ⟨by rw [h3.out]; rfl, Drawn0.refl _⟩
  · have h3 : Hid (wayR a b = false) := by
      unfold wayR
      rw [Hid, decide_eq_false h1]
      rfl
    have h1' : ¬ (a.size : Int) < (b.size : Int) := by omega
    go_enter Tryz.func101, Tryz.ntmps101
    go_wp2
    go_ret
    exact ⟨by rw [h3.out]; rfl, Drawn0.refl _⟩
theorem cooperageref5_way.calls (a b : ByteArray) (r : Bool) (w : World) (h : cooperageref5_way.f a b = some r) :
    Calls Tryz.prog 101 #[.string a, .string b] w fun e w' => e = .returned (.bool r) ∧ Drawn0 w w' := by
  obtain rfl := Option.some.inj h
  exact way_walk a b w
end Go.Proofs.YtghbaehbgefpaaaGreatDoor.Fr
namespace Go.Proofs.YtghbaehbgefpaaaGreatDoor.F
open Go.Proofs.YtghbaehbgefpaaaGreatDoor.Fr
open Go.Proofs.YtghbaehbgefpaaaGreatDoor
open Go.RowKit Go.Proofs.YtghbaehbgefpaaaGreatDoorW.PrintWords Go.Proofs.YtghbaehbgefpaaaGreatDoorW.PrintLast Go.Proofs.YtghbaehbgefpaaaGreatDoorW.PrintMore
attribute [local go_sem] max2_int min2_int max_two min_two max_three min_three max_four min_four   -- for this text's walks alone
def cooperagelaw7_pick.f (a0 : Int) (a1 : Int) : Option (Int) := if a0 < 0 then (if a1 = 0 then (none) else (some (Int.tmod (wrap64 (-(wrap64 (a0 + 1)))) a1))) else (if a1 = 0 then (none) else (some (Int.tmod a0 a1)))
set_option maxHeartbeats 8000000 in
set_option maxRecDepth 100000 in
theorem cooperagelaw7_pick.calls (a0 : Int) (a1 : Int) (r : Int) (w : World) (h : cooperagelaw7_pick.f a0 a1 = some r) :
    Calls Tryz.prog 15 #[.int .i64 a0, .int .i64 a1] w fun e w' => e = .returned (.int .i64 r) ∧ Drawn0 w w' := by
  have H : (if a0 < 0 then (if a1 = 0 then (none) else (some (Int.tmod (wrap64 (-(wrap64 (a0 + 1)))) a1))) else (if a1 = 0 then (none) else (some (Int.tmod a0 a1)))) = some r := h
  clear h
  by_cases c3 : a0 < 0
  · rw [if_pos c3] at H
    have c3b0 : decide (a0 < 0) = true := decide_eq_true c3
    clear c3
    by_cases c4 : a1 = 0
    · rw [if_pos c4] at H
      exact absurd H (by simp)
    · rw [if_neg c4] at H
      have c4b0 : (a1 == 0) = false := beq_eq_false_iff_ne.mpr c4
      have c4b1 : (a1 != 0) = true := bne_iff_ne.mpr c4
      obtain rfl := Option.some.inj H
      go_enter Tryz.func15, Tryz.ntmps15
      go_wp2
      go_ret
      exact ⟨by first | rfl | (simp; done) | (simp [*]; done), by repeat (first | exact Drawn0.refl _ | apply Drawn0.step)⟩
  · rw [if_neg c3] at H
    have c3b0 : decide (a0 < 0) = false := decide_eq_false c3
    clear c3
    by_cases c5 : a1 = 0
    · rw [if_pos c5] at H
      exact absurd H (by simp)
    · rw [if_neg c5] at H
      have c5b0 : (a1 == 0) = false := beq_eq_false_iff_ne.mpr c5
      have c5b1 : (a1 != 0) = true := bne_iff_ne.mpr c5
      obtain rfl := Option.some.inj H
      go_enter Tryz.func15, Tryz.ntmps15
      go_wp2
      go_ret
      exact ⟨by first | rfl | (simp; done) | (simp [*]; done), by repeat (first | exact Drawn0.refl _ | apply Drawn0.step)⟩
attribute [local go_sem] max2_int min2_int max_two min_two max_three min_three max_four min_four   -- for this text's walks alone
mutual
def cooperagelaw7_small.l0 : Nat → List (S53) → Int → Option (Bool)
  | 0, _, _ => none
  | k + 1, x0, x3 => if x3 < (x0.length : Int) then (if 0 ≤ x3 then (if (((rd_T53 x0 x3).f3).size : Int) > 4500 then (cooperagelaw7_small.j1 k x0 x3 true) else (cooperagelaw7_small.j1 k x0 x3 (decide ((((rd_T53 x0 x3).f4).length : Int) > 45)))) else (none)) else (some true)
def cooperagelaw7_small.j1 : Nat → List (S53) → Int → Bool → Option (Bool)
  | 0, _, _, _ => none
  | k + 1, x0, x3, x29 => if x29 = true then (some false) else (cooperagelaw7_small.l1 k x0 x3 0)
def cooperagelaw7_small.l1 : Nat → List (S53) → Int → Int → Option (Bool)
  | 0, _, _, _ => none
  | k + 1, x0, x3, x4 => if 0 ≤ x3 then (if x3 < (x0.length : Int) then (if x4 < (((rd_T53 x0 x3).f4).length : Int) then (if 0 ≤ x4 then (if ((rdOf ByteArray.empty ((rd_T53 x0 x3).f4) x4).size : Int) > 60 then (some false) else (cooperagelaw7_small.l1 k x0 x3 (wrap64 (x4 + 1)))) else (none)) else (cooperagelaw7_small.l0 k x0 (wrap64 (x3 + 1)))) else (none)) else (none)
end
def cooperagelaw7_small.f (k : Nat) (l0 : List (S53)) : Option (Bool) := if (l0.length : Int) > 40 then (some false) else (cooperagelaw7_small.l0 k l0 0)
set_option maxHeartbeats 8000000 in
set_option maxRecDepth 100000 in
theorem cooperagelaw7_small.calls (k : Nat) (A0 : Option Addr) (c0 : Nat) (l0 : List (S53)) (r : Bool) (w : World) (hr0 : Kd.C k53 w A0 l0.length l0) (hc0 : l0.length ≤ c0) (h : cooperagelaw7_small.f k l0 = some r) :
    Calls Tryz.prog 18 #[.slice A0 l0.length c0] w fun e w' => e = .returned (.bool r) ∧ Drawn0 w w' := by
  have HR0 := Aside0.mk hr0
  have HC0 := Aside0.mk hc0
  clear hr0 hc0
  have H : (if (l0.length : Int) > 40 then (some false) else (cooperagelaw7_small.l0 k l0 0)) = some r := h
  clear h
  by_cases c2 : (l0.length : Int) > 40
  · rw [if_pos c2] at H
    have c2b0 : decide (40 < (l0.length : Int)) = true := decide_eq_true c2
    have c2b1 : decide (40 < l0.length) = true := decide_eq_true (by omega)
    clear c2
    obtain rfl := Option.some.inj H
    go_enter Tryz.func18, Tryz.ntmps18
    go_wp2
    go_ret
    exact ⟨by first | rfl | (simp; done) | (simp [*]; done), by repeat (first | exact Drawn0.refl _ | apply Drawn0.step)⟩
  · rw [if_neg c2] at H
    have c2b0 : decide (40 < (l0.length : Int)) = false := decide_eq_false c2
    have c2b1 : decide (40 < l0.length) = false := decide_eq_false (by omega)
    clear c2
    have H' := Aside0.mk H
    clear H
    go_enter Tryz.func18, Tryz.ntmps18
    go_wp2
    go_loopg [3] k (fun kq v3 w' => ∃ (x3_1 : Int), v3 = .int .i64 x3_1 ∧ Aside0 (cooperagelaw7_small.l0 kq l0 x3_1 = some r) ∧ Aside0 (kq ≤ k) ∧ Drawn0 w w')
    case atStart => exact ⟨(0), (by first | rfl | (simp; done) | (simp [*]; done)), H', ⟨Nat.le_refl _⟩, by repeat (first | exact Drawn0.refl _ | apply Drawn0.step)⟩
    case round =>
      clear H'
      try clear c1
      try clear c2
      try clear c2b0
      try clear c2b1
      try clear p2
      obtain ⟨x3_1, rfl, HA, HK1, ⟨m1, rfl⟩⟩ := hrel
      cases gk with
      | zero => exact absurd HA.out (by simp [cooperagelaw7_small.l0])
      | succ k1 =>
        have H := HA.out
        clear HA
        simp only [cooperagelaw7_small.l0] at H
        by_cases c3 : x3_1 < (l0.length : Int)
        · rw [if_pos c3] at H
          have c3b0 : decide (x3_1 < (l0.length : Int)) = true := decide_eq_true c3
          clear c3
          have HC4 := Aside0.mk H
          clear H
          go_upto_region 6 with (fail)
          go_cut [29] (fun v29 wc => ∃ (kq : Nat) (x29_3 : Bool), v29 = .bool x29_3 ∧ Aside0 (cooperagelaw7_small.j1 kq l0 x3_1 x29_3 = some r) ∧ Aside0 (kq ≤ k1) ∧ Drawn0 w wc)
          case first =>
            have H := HC4.out
            clear HC4
            by_cases c5 : 0 ≤ x3_1
            · rw [if_pos c5] at H
              have c5b0 : decide (0 ≤ x3_1) = true := decide_eq_true c5
              clear c5
              (first | rw [c5b0] | (simp only [i64_w, i32_w]; rw [c5b0]) | skip)
              by_cases c6 : (((rd_T53 l0 x3_1).f3).size : Int) > 4500
              · rw [if_pos c6] at H
                have c6b0 : decide (4500 < (((rd_T53 l0 x3_1).f3).size : Int)) = true := decide_eq_true c6
                have c6b1 : decide (4500 < ((rd_T53 l0 x3_1).f3).size) = true := decide_eq_true (by omega)
                clear c6
                have H' := Aside0.mk H
                clear H
                have p101 : 0 ≤ (x3_1 : Int) := of_decide_eq_true (by first | (with_reducible assumption) | assumption)
                have q101 : x3_1 < (l0.length : Int) := of_decide_eq_true (by first | (with_reducible assumption) | assumption)
                obtain ⟨ad101, A101_4, c101_4, e101, hx101_0, hx101_1, hx101_2, hx101_3, hx101_4, hl101_4, hi101_4⟩ := at_T53 HR0.out x3_1 p101 q101
                cases e101
                have HR101_4 := Aside0.mk hi101_4
                have HC101_4 := Aside0.mk hl101_4
                clear hi101_4 hl101_4
                replace p101 := eq_true p101
                replace q101 := eq_true q101
                go_wp2
                go_meet
                case rel => exact ⟨_, (true), (by first | rfl | (simp; done) | (simp [*]; done)), H', ⟨by have := HK1.out; first | omega | exact Nat.le_refl _⟩, by repeat (first | exact Drawn0.refl _ | apply Drawn0.step)⟩
              · rw [if_neg c6] at H
                have c6b0 : decide (4500 < (((rd_T53 l0 x3_1).f3).size : Int)) = false := decide_eq_false c6
                have c6b1 : decide (4500 < ((rd_T53 l0 x3_1).f3).size) = false := decide_eq_false (by omega)
                clear c6
                have H' := Aside0.mk H
                clear H
                have p101 : 0 ≤ (x3_1 : Int) := of_decide_eq_true (by first | (with_reducible assumption) | assumption)
                have q101 : x3_1 < (l0.length : Int) := of_decide_eq_true (by first | (with_reducible assumption) | assumption)
                obtain ⟨ad101, A101_4, c101_4, e101, hx101_0, hx101_1, hx101_2, hx101_3, hx101_4, hl101_4, hi101_4⟩ := at_T53 HR0.out x3_1 p101 q101
                cases e101
                have HR101_4 := Aside0.mk hi101_4
                have HC101_4 := Aside0.mk hl101_4
                clear hi101_4 hl101_4
                replace p101 := eq_true p101
                replace q101 := eq_true q101
                have p102 : 0 ≤ (x3_1 : Int) := of_decide_eq_true (by first | (with_reducible assumption) | assumption)
                have q102 : x3_1 < (l0.length : Int) := of_decide_eq_true (by first | (with_reducible assumption) | assumption)
                obtain ⟨ad102, A102_4, c102_4, e102, hx102_0, hx102_1, hx102_2, hx102_3, hx102_4, hl102_4, hi102_4⟩ := at_T53 HR0.out x3_1 p102 q102
                obtain rfl : ad101 = ad102 := (by injection e102)
                have HR102_4 := Aside0.mk hi102_4
                have HC102_4 := Aside0.mk hl102_4
                clear hi102_4 hl102_4
                replace p102 := eq_true p102
                replace q102 := eq_true q102
                have ea_ := Option.some.inj (hx101_4.symm.trans hx102_4)
                injection ea_ with ea_ en_ ec_
                subst ea_
                subst ec_
                clear en_
                go_wp2
                go_meet
                case rel => exact ⟨_, (decide ((((rd_T53 l0 x3_1).f4).length : Int) > 45)), (by first | rfl | (simp; done) | (simp [*]; done)), H', ⟨by have := HK1.out; first | omega | exact Nat.le_refl _⟩, by repeat (first | exact Drawn0.refl _ | apply Drawn0.step)⟩
            · rw [if_neg c5] at H
              exact absurd H (by simp)
          case rest =>
            clear HC4
            try clear c1
            try clear p1
            try clear q1
            try clear hx1
            try clear c2
            try clear c2b0
            try clear c2b1
            try clear p2
            try clear c3
            try clear c3b0
            try clear c5
            try clear c5b0
            try clear c6
            try clear c6b0
            try clear c6b1
            try clear hx101_0
            try clear hx101_1
            try clear hx101_2
            try clear hx101_3
            try clear hx101_4
            try clear hx102_0
            try clear hx102_1
            try clear hx102_2
            try clear hx102_3
            try clear hx102_4
            try clear p101
            try clear p102
            try clear p2
            try clear q101
            try clear q102
            obtain ⟨kq, x29_3, rfl, HA, HJ3, ⟨mc3, rfl⟩⟩ := hcut
            cases kq with
            | zero => exact absurd HA.out (by simp [cooperagelaw7_small.j1])
            | succ kj3 =>
              have H := HA.out
              clear HA
              simp only [cooperagelaw7_small.j1] at H
              by_cases c7 : x29_3 = true
              · subst c7
                have H1 : (some false) = some r := by rw [if_pos rfl] at H; exact H
                clear H
                have H := H1
                clear H1
                obtain rfl := Option.some.inj H
                go_wp2
                go_ret
                exact ⟨by first | rfl | (simp; done) | (simp [*]; done), by repeat (first | exact Drawn0.refl _ | apply Drawn0.step)⟩
              · replace c7 := Bool.eq_false_iff.mpr c7
                subst c7
                have H1 : (cooperagelaw7_small.l1 kj3 l0 x3_1 0) = some r := by rw [if_neg (show ¬ (false = true) by decide)] at H; exact H
                clear H
                have H := H1
                clear H1
                have H' := Aside0.mk H
                clear H
                go_wp2
                go_loopg [4] kj3 (fun kq v4 w' => ∃ (x4_3 : Int), v4 = .int .i64 x4_3 ∧ Aside0 (cooperagelaw7_small.l1 kq l0 x3_1 x4_3 = some r) ∧ Aside0 (kq ≤ kj3) ∧ Drawn0 w w')
                case atStart => exact ⟨(0), (by first | rfl | (simp; done) | (simp [*]; done)), H', ⟨Nat.le_refl _⟩, by repeat (first | exact Drawn0.refl _ | apply Drawn0.step)⟩
                case round =>
                  clear H'
                  try clear c1
                  try clear p1
                  try clear q1
                  try clear hx1
                  try clear c2
                  try clear c2b0
                  try clear c2b1
                  try clear p2
                  try clear c3
                  try clear c3b0
                  try clear c5
                  try clear c5b0
                  try clear c6
                  try clear c6b0
                  try clear c6b1
                  try clear c7
                  try clear hx101_0
                  try clear hx101_1
                  try clear hx101_2
                  try clear hx101_3
                  try clear hx101_4
                  try clear hx102_0
                  try clear hx102_1
                  try clear hx102_2
                  try clear hx102_3
                  try clear hx102_4
                  try clear p1
                  try clear p101
                  try clear p102
                  try clear p2
                  try clear q1
                  try clear q101
                  try clear q102
                  obtain ⟨x4_3, rfl, HA, HK3, ⟨m3, rfl⟩⟩ := hrel
                  cases gk with
                  | zero => exact absurd HA.out (by simp [cooperagelaw7_small.l1])
                  | succ k3 =>
                    have H := HA.out
                    clear HA
                    simp only [cooperagelaw7_small.l1] at H
                    by_cases c8 : 0 ≤ x3_1
                    · rw [if_pos c8] at H
                      have c8b0 : decide (0 ≤ x3_1) = true := decide_eq_true c8
                      clear c8
                      by_cases c9 : x3_1 < (l0.length : Int)
                      · rw [if_pos c9] at H
                        have c9b0 : decide (x3_1 < (l0.length : Int)) = true := decide_eq_true c9
                        clear c9
                        by_cases c10 : x4_3 < (((rd_T53 l0 x3_1).f4).length : Int)
                        · rw [if_pos c10] at H
                          have c10b0 : decide (x4_3 < (((rd_T53 l0 x3_1).f4).length : Int)) = true := decide_eq_true c10
                          clear c10
                          by_cases c11 : 0 ≤ x4_3
                          · rw [if_pos c11] at H
                            have c11b0 : decide (0 ≤ x4_3) = true := decide_eq_true c11
                            clear c11
                            by_cases c12 : ((rdOf ByteArray.empty ((rd_T53 l0 x3_1).f4) x4_3).size : Int) > 60
                            · rw [if_pos c12] at H
                              have c12b0 : decide (60 < ((rdOf ByteArray.empty ((rd_T53 l0 x3_1).f4) x4_3).size : Int)) = true := decide_eq_true c12
                              have c12b1 : decide (60 < (rdOf ByteArray.empty ((rd_T53 l0 x3_1).f4) x4_3).size) = true := decide_eq_true (by omega)
                              clear c12
                              obtain rfl := Option.some.inj H
                              have p103 : 0 ≤ (x3_1 : Int) := of_decide_eq_true (by first | (with_reducible assumption) | assumption)
                              have q103 : x3_1 < (l0.length : Int) := of_decide_eq_true (by first | (with_reducible assumption) | assumption)
                              obtain ⟨ad103, A103_4, c103_4, e103, hx103_0, hx103_1, hx103_2, hx103_3, hx103_4, hl103_4, hi103_4⟩ := at_T53 HR0.out x3_1 p103 q103
                              cases e103
                              have HR103_4 := Aside0.mk hi103_4
                              have HC103_4 := Aside0.mk hl103_4
                              clear hi103_4 hl103_4
                              replace p103 := eq_true p103
                              replace q103 := eq_true q103
                              have p104 : 0 ≤ (x3_1 : Int) := of_decide_eq_true (by first | (with_reducible assumption) | assumption)
                              have q104 : x3_1 < (l0.length : Int) := of_decide_eq_true (by first | (with_reducible assumption) | assumption)
                              obtain ⟨ad104, A104_4, c104_4, e104, hx104_0, hx104_1, hx104_2, hx104_3, hx104_4, hl104_4, hi104_4⟩ := at_T53 HR0.out x3_1 p104 q104
                              obtain rfl : ad103 = ad104 := (by injection e104)
                              have HR104_4 := Aside0.mk hi104_4
                              have HC104_4 := Aside0.mk hl104_4
                              clear hi104_4 hl104_4
                              replace p104 := eq_true p104
                              replace q104 := eq_true q104
                              have ea_ := Option.some.inj (hx103_4.symm.trans hx104_4)
                              injection ea_ with ea_ en_ ec_
                              subst ea_
                              subst ec_
                              clear en_
                              have p105 : 0 ≤ (x4_3 : Int) := of_decide_eq_true (by first | (with_reducible assumption) | assumption)
                              have q105 : x4_3 < (((rd_T53 l0 x3_1).f4).length : Int) := of_decide_eq_true (by first | (with_reducible assumption) | assumption)
                              obtain ⟨ad105, e105, hx105_0⟩ := Kd.at_string HR104_4.out x4_3 p105 q105
                              cases e105
                              replace p105 := eq_true p105
                              replace q105 := eq_true q105
                              go_wp2
                              go_ret
                              exact ⟨by first | rfl | (simp; done) | (simp [*]; done), by repeat (first | exact Drawn0.refl _ | apply Drawn0.step)⟩
                            · rw [if_neg c12] at H
                              have c12b0 : decide (60 < ((rdOf ByteArray.empty ((rd_T53 l0 x3_1).f4) x4_3).size : Int)) = false := decide_eq_false c12
                              have c12b1 : decide (60 < (rdOf ByteArray.empty ((rd_T53 l0 x3_1).f4) x4_3).size) = false := decide_eq_false (by omega)
                              clear c12
                              have H' := Aside0.mk H
                              clear H
                              have p103 : 0 ≤ (x3_1 : Int) := of_decide_eq_true (by first | (with_reducible assumption) | assumption)
                              have q103 : x3_1 < (l0.length : Int) := of_decide_eq_true (by first | (with_reducible assumption) | assumption)
                              obtain ⟨ad103, A103_4, c103_4, e103, hx103_0, hx103_1, hx103_2, hx103_3, hx103_4, hl103_4, hi103_4⟩ := at_T53 HR0.out x3_1 p103 q103
                              cases e103
                              have HR103_4 := Aside0.mk hi103_4
                              have HC103_4 := Aside0.mk hl103_4
                              clear hi103_4 hl103_4
                              replace p103 := eq_true p103
                              replace q103 := eq_true q103
                              have p104 : 0 ≤ (x3_1 : Int) := of_decide_eq_true (by first | (with_reducible assumption) | assumption)
                              have q104 : x3_1 < (l0.length : Int) := of_decide_eq_true (by first | (with_reducible assumption) | assumption)
                              obtain ⟨ad104, A104_4, c104_4, e104, hx104_0, hx104_1, hx104_2, hx104_3, hx104_4, hl104_4, hi104_4⟩ := at_T53 HR0.out x3_1 p104 q104
                              obtain rfl : ad103 = ad104 := (by injection e104)
                              have HR104_4 := Aside0.mk hi104_4
                              have HC104_4 := Aside0.mk hl104_4
                              clear hi104_4 hl104_4
                              replace p104 := eq_true p104
                              replace q104 := eq_true q104
                              have ea_ := Option.some.inj (hx103_4.symm.trans hx104_4)
                              injection ea_ with ea_ en_ ec_
                              subst ea_
                              subst ec_
                              clear en_
                              have p105 : 0 ≤ (x4_3 : Int) := of_decide_eq_true (by first | (with_reducible assumption) | assumption)
                              have q105 : x4_3 < (((rd_T53 l0 x3_1).f4).length : Int) := of_decide_eq_true (by first | (with_reducible assumption) | assumption)
                              obtain ⟨ad105, e105, hx105_0⟩ := Kd.at_string HR104_4.out x4_3 p105 q105
                              cases e105
                              replace p105 := eq_true p105
                              replace q105 := eq_true q105
                              go_wp2
                              go_roundg k3
                              case measure => have := HK1.out; have := HJ3.out; have := HK3.out; omega
                              case rel => exact ⟨(wrap64 (x4_3 + 1)), (by first | rfl | (simp; done) | (simp [*]; done)), H', ⟨by have := HK1.out; have := HJ3.out; have := HK3.out; omega⟩, by repeat (first | exact Drawn0.refl _ | apply Drawn0.step)⟩
                          · rw [if_neg c11] at H
                            exact absurd H (by simp)
                        · rw [if_neg c10] at H
                          have c10b0 : decide (x4_3 < (((rd_T53 l0 x3_1).f4).length : Int)) = false := decide_eq_false c10
                          clear c10
                          have H' := Aside0.mk H
                          clear H
                          have p103 : 0 ≤ (x3_1 : Int) := of_decide_eq_true (by first | (with_reducible assumption) | assumption)
                          have q103 : x3_1 < (l0.length : Int) := of_decide_eq_true (by first | (with_reducible assumption) | assumption)
                          obtain ⟨ad103, A103_4, c103_4, e103, hx103_0, hx103_1, hx103_2, hx103_3, hx103_4, hl103_4, hi103_4⟩ := at_T53 HR0.out x3_1 p103 q103
                          cases e103
                          have HR103_4 := Aside0.mk hi103_4
                          have HC103_4 := Aside0.mk hl103_4
                          clear hi103_4 hl103_4
                          replace p103 := eq_true p103
                          replace q103 := eq_true q103
                          go_wp2
                          go_roundg k3
                          case measure => have := HK1.out; have := HJ3.out; have := HK3.out; omega
                          case rel => exact ⟨(wrap64 (x3_1 + 1)), (by first | rfl | (simp; done) | (simp [*]; done)), H', ⟨by have := HK1.out; have := HJ3.out; have := HK3.out; omega⟩, by repeat (first | exact Drawn0.refl _ | apply Drawn0.step)⟩
                      · rw [if_neg c9] at H
                        exact absurd H (by simp)
                    · rw [if_neg c8] at H
                      exact absurd H (by simp)
        · rw [if_neg c3] at H
          have c3b0 : decide (x3_1 < (l0.length : Int)) = false := decide_eq_false c3
          clear c3
          obtain rfl := Option.some.inj H
          go_wp2
          go_ret
          exact ⟨by first | rfl | (simp; done) | (simp [*]; done), by repeat (first | exact Drawn0.refl _ | apply Drawn0.step)⟩
end Go.Proofs.YtghbaehbgefpaaaGreatDoor.F
