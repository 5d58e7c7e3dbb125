import Derived.Test.YtgdanenhbjfhaaaGreatDoorQ01
import Derived.Test.YtgdanenhbjfhaaaGreatDoorQ00
import Derived.Laws.StructEq
import Derived.SizedLaws
import Derived.ChangeSlices
import Derived.Test.YtgdanenhbjfhaaaGreatDoorProg
import Derived.Below
import Derived.Deep.Draws
import Derived.Deep.AppendLies
import Derived.Maps.AppendAt
import Derived.OwnWalk
import Derived.Laws.BytesArg
import Derived.Laws.MakeOwn
import Derived.Laws.OwnMore
import Derived.Deep.OwnRows
import Derived.Tactics
import Derived.Lib.ConvBytes
import Derived.Laws.Slices
import Derived.WalkKit
import Derived.KernelRfl
import Derived.RowKit3
import Derived.Deep.LoopGhost
import Derived.Deep.QuietTactic
import Derived.BigQuiet
import Derived.WideLaws
import Derived.Deep.DeepCutAuto
import Derived.Deep.CutBlock
import Derived.Deep.RegionHeld3
import Derived.Laws.Rows
import Derived.Lib.AppendStr
import Derived.ArgAppend
import Derived.Laws.IdiomCopy
import Derived.OrdersHeld
import Derived.Laws.BitsLemmas
import Derived.RowKit
import Derived.Lib.Hide
import Derived.Maps.RangeWalk
import Derived.Maps.OwnSet
import Derived.Maps.OwnOps
import Derived.Maps.Own
import Derived.Sort.KeysCollected
import Derived.Outline
/- Several texts of this session in one: the walks of the functions that the laws reach, and what they tell. -/
-- PRINTED BY print.sh 35421559b90ae4d0a3588c463048766b98c2df88dd9212a6774a882060cdf62d: not written by this session
/-! ### 54. Behind orders that were drawn quietly: the same facts at the world's new name; a flat row's foot -/
namespace Go.Proofs.YtgdanenhbjfhaaaGreatDoorW.PrintWords
open Go.RowKit
section
variable {w w' u : World} {m B g : Nat} {o : Obj} {row : Option Nat} {S : Nat → Prop} {a : Addr} {v : Value}
end
namespace Kd
section
variable {α : Type} {d : Kd α} {e base n m : Nat} {ok : Nat → Prop} {w w' : World} {v : Value} {A : Option Addr} {xs : List α}
theorem S_at (hq : w.drewN m = w') (h : Kd.S d e w base ok v xs) : Kd.S d e w' base ok v xs := by subst hq; exact S_drewN h m
end
end Kd
end Go.Proofs.YtgdanenhbjfhaaaGreatDoorW.PrintWords
-- PRINTED BY print.sh 35421559b90ae4d0a3588c463048766b98c2df88dd9212a6774a882060cdf62d: not written by this session
/-! ### 53. '==' of structs as_ one Bool -/
namespace Go.Proofs.YtgdanenhbjfhaaaGreatDoorW.PrintWords
open Go.RowKit
section
variable {P : Program} {d : Nat} {xs ys : Array Value} {f : Field} {fs : List Field} {a b : Value} {r s : Bool} {w : World}
end
end Go.Proofs.YtgdanenhbjfhaaaGreatDoorW.PrintWords
-- PRINTED BY print.sh 35421559b90ae4d0a3588c463048766b98c2df88dd9212a6774a882060cdf62d: not written by this session
/-! ### 55. Reps told from the front, no append: for rows of one-cell elements and of wider ones -/
namespace Go.Proofs.YtgdanenhbjfhaaaGreatDoorW.PrintWords
/-- One cell an element. -/
theorem Reps.one {α : Type} {R : α → List Value → Prop} {ps : List α} {cs : List Value} {p : α} {v : Value} (hp : R p [v]) (h : Reps R 1 ps cs) : Reps R 1 (p :: ps) (v :: cs) := by
  refine ⟨by simp [h.1], fun j q hq => ?_⟩
  cases j with
  | zero =>
    simp only [List.getElem?_cons_zero, Option.some.injEq] at hq
    subst hq
    simpa using hp
  | succ j =>
    simp only [List.getElem?_cons_succ] at hq
    have h1 := h.2 j q hq
    simpa [Nat.mul_one] using h1
/-- More cells an element: told apart by the cells' list. -/
theorem Reps.front {α : Type} {R : α → List Value → Prop} {size : Nat} {ps : List α} {cs c all : List Value} {p : α} (hp : R p c) (hc : c.length = size) (h : Reps R size ps cs) (ha : c ++ cs = all) : Reps R size (p :: ps) all := by
  subst ha
  refine ⟨by rw [List.length_append, hc, h.1, List.length_cons, Nat.succ_mul, Nat.add_comm], fun j q hq => ?_⟩
  cases j with
  | zero =>
    simp only [List.getElem?_cons_zero, Option.some.injEq] at hq
    subst hq
    rw [Nat.zero_mul, List.drop_zero, List.take_append_of_le_length (by omega), List.take_of_length_le (by omega)]
    exact hp
  | succ j =>
    simp only [List.getElem?_cons_succ] at hq
    have h1 := h.2 j q hq
    rw [Nat.succ_mul, List.drop_append, List.drop_of_length_le (by rw [hc]; exact Nat.le_add_left _ _), List.nil_append, hc, Nat.add_sub_cancel]
    exact h1
theorem Reps.c2 {α : Type} {R : α → List Value → Prop} {ps : List α} {cs : List Value} {p : α} {va vb : Value} (hp : R p [va, vb]) (h : Reps R 2 ps cs) : Reps R 2 (p :: ps) (va :: vb :: cs) := Reps.front hp rfl h rfl
theorem Reps.c3 {α : Type} {R : α → List Value → Prop} {ps : List α} {cs : List Value} {p : α} {va vb vc : Value} (hp : R p [va, vb, vc]) (h : Reps R 3 ps cs) : Reps R 3 (p :: ps) (va :: vb :: vc :: cs) := Reps.front hp rfl h rfl
theorem Reps.c4 {α : Type} {R : α → List Value → Prop} {ps : List α} {cs : List Value} {p : α} {va vb vc vd : Value} (hp : R p [va, vb, vc, vd]) (h : Reps R 4 ps cs) : Reps R 4 (p :: ps) (va :: vb :: vc :: vd :: cs) := Reps.front hp rfl h rfl
theorem Reps.c5 {α : Type} {R : α → List Value → Prop} {ps : List α} {cs : List Value} {p : α} {va vb vc vd ve : Value} (hp : R p [va, vb, vc, vd, ve]) (h : Reps R 5 ps cs) : Reps R 5 (p :: ps) (va :: vb :: vc :: vd :: ve :: cs) := Reps.front hp rfl h rfl
theorem Reps.c6 {α : Type} {R : α → List Value → Prop} {ps : List α} {cs : List Value} {p : α} {va vb vc vd ve vf : Value} (hp : R p [va, vb, vc, vd, ve, vf]) (h : Reps R 6 ps cs) : Reps R 6 (p :: ps) (va :: vb :: vc :: vd :: ve :: vf :: cs) := Reps.front hp rfl h rfl
theorem Reps.c7 {α : Type} {R : α → List Value → Prop} {ps : List α} {cs : List Value} {p : α} {va vb vc vd ve vf vg : Value} (hp : R p [va, vb, vc, vd, ve, vf, vg]) (h : Reps R 7 ps cs) : Reps R 7 (p :: ps) (va :: vb :: vc :: vd :: ve :: vf :: vg :: cs) := Reps.front hp rfl h rfl
theorem Reps.c8 {α : Type} {R : α → List Value → Prop} {ps : List α} {cs : List Value} {p : α} {va vb vc vd ve vf vg vh : Value} (hp : R p [va, vb, vc, vd, ve, vf, vg, vh]) (h : Reps R 8 ps cs) : Reps R 8 (p :: ps) (va :: vb :: vc :: vd :: ve :: vf :: vg :: vh :: cs) := Reps.front hp rfl h rfl
theorem Reps.c9 {α : Type} {R : α → List Value → Prop} {ps : List α} {cs : List Value} {p : α} {va vb vc vd ve vf vg vh vi : Value} (hp : R p [va, vb, vc, vd, ve, vf, vg, vh, vi]) (h : Reps R 9 ps cs) : Reps R 9 (p :: ps) (va :: vb :: vc :: vd :: ve :: vf :: vg :: vh :: vi :: cs) := Reps.front hp rfl h rfl
theorem Reps.c10 {α : Type} {R : α → List Value → Prop} {ps : List α} {cs : List Value} {p : α} {va vb vc vd ve vf vg vh vi vj : Value} (hp : R p [va, vb, vc, vd, ve, vf, vg, vh, vi, vj]) (h : Reps R 10 ps cs) : Reps R 10 (p :: ps) (va :: vb :: vc :: vd :: ve :: vf :: vg :: vh :: vi :: vj :: cs) := Reps.front hp rfl h rfl
end Go.Proofs.YtgdanenhbjfhaaaGreatDoorW.PrintWords
-- PRINTED BY print.sh 35421559b90ae4d0a3588c463048766b98c2df88dd9212a6774a882060cdf62d: not written by this session
/-! ### 57. A region of open order by ONE relation over what is listed so far: each operation is shown once, whatever came up before it -/
namespace Go.Proofs.YtgdanenhbjfhaaaGreatDoorW.PrintLast
/-- Number i is listed too. -/
def up (b : Nat → Bool) (i : Nat) : Nat → Bool := fun j => if j = i then true else b j
section
variable {P : Program} {ops : Array Oper} {Q : Exit → Act → World → Prop} {md : Region.Mode} {T : Bool × List (List Nat × List Nat)} {B : List Nat} {O : List Nat} {b : Nat → Bool} {i j n : Nat}
/-! The frame: what is listed has its destination filled. -/
end
end Go.Proofs.YtgdanenhbjfhaaaGreatDoorW.PrintLast
-- PRINTED BY print.sh 35421559b90ae4d0a3588c463048766b98c2df88dd9212a6774a882060cdf62d: not written by this session
namespace Go.Proofs.YtgdanenhbjfhaaaGreatDoorW.PrintWords
open Go.RowKit
end Go.Proofs.YtgdanenhbjfhaaaGreatDoorW.PrintWords
namespace Go.Proofs.YtgdanenhbjfhaaaGreatDoorW.PrintLast
section
variable {ops : Array Oper} {a : Act} {o og : Oper} {g : Nat} {t : Tmp} {u : Bool}
end
end Go.Proofs.YtgdanenhbjfhaaaGreatDoorW.PrintLast
-- PRINTED BY print.sh 35421559b90ae4d0a3588c463048766b98c2df88dd9212a6774a882060cdf62d: not written by this session
/-! ### 58. A guarded operation whose guard is known to want it: the same goal without the guard -/
namespace Go.Proofs.YtgdanenhbjfhaaaGreatDoorW.PrintWords
open Go.RowKit
section
variable {P : Program} {ops : Array Oper} {rest : List Oper} {o : Oper} {a : Act} {Q : Exit → Act → World → Prop} {W : World}
/-- The gate takes the guard off (hw: 'by rfl', 'by kernel_rfl': the guard's slot holds what is wanted). -/
theorem gate_guard (hw : Region.wanted o (yielded ops a.tmps) = true) (h : wpList P ops Q ({ o with guard := none } :: rest) a W) : wpList P ops Q (o :: rest) a W := by
  have h1 : Region.wanted { o with guard := none } (yielded ops a.tmps) = true := rfl
  unfold wpList at h ⊢
  rw [if_pos h1] at h
  rw [if_pos hw]
  exact h
end
end Go.Proofs.YtgdanenhbjfhaaaGreatDoorW.PrintWords
-- PRINTED BY print.sh 35421559b90ae4d0a3588c463048766b98c2df88dd9212a6774a882060cdf62d: not written by this session
-- PRINTED WORDS (module Derived/Print/Sized.lean): go-gate-2's, for the rows of laws over slices: an AI agent of Go's test side, Tue Nov 17 2026; no person has read it. Lean checks it.
namespace Go.Proofs.YtgdanenhbjfhaaaGreatDoorW.PrintWords
open Go.ChangeShapes Go.WideShapes
end Go.Proofs.YtgdanenhbjfhaaaGreatDoorW.PrintWords
namespace Go.Proofs.YtgdanenhbjfhaaaGreatDoor.F
open Go.RowKit Go.Proofs.YtgdanenhbjfhaaaGreatDoorW.PrintWords Go.Proofs.YtgdanenhbjfhaaaGreatDoorW.PrintLast Go.Proofs.YtgdanenhbjfhaaaGreatDoorW.PrintMore
attribute [local go_sem] max2_int min2_int max_two min_two max_three min_three max_four min_four   -- for this text's walks alone
set_option linter.unusedVariables false
set_option linter.unusedSimpArgs false

def errW : Option Int → Value
  | none => .nilIface
  | some c => .iface 0 (.int .i64 c)
theorem errW_none : errW none = .nilIface := rfl
theorem errW_some (c : Int) : errW (some c) = .iface 0 (.int .i64 c) := rfl

theorem info89 : (Tryz.prog.info? 89).map (fun i => (i.zero, i.size, i.bytes)) = some (some (.agg #[(.string ⟨#[]⟩), (.string ⟨#[]⟩), (.int .i64 0)]), 3, 40) := by kernel_rfl
-- the values' own types
def rd_L1 (xs : List (List ByteArray)) (i : Int) : (List ByteArray) := xs.getD i.toNat ([] : List ByteArray)
theorem at_L1 {w : World} {A : Option Addr} {n : Nat} {xs : List (List ByteArray)} (h : Kd.C (Kd.slice 9 Kd.string) w A n xs) (i : Int) (h0 : 0 ≤ i) (h1 : i < n) : ∃ ad A0 c0, A = some ad ∧ w.cell? (ad.add i.toNat) = some (.slice A0 (rd_L1 xs i).length c0) ∧ (rd_L1 xs i).length ≤ c0 ∧ Kd.string.C w A0 (rd_L1 xs i).length (rd_L1 xs i) := by
  obtain ⟨ad, c, e, _, hK, hc0⟩ := Kd.C_get h ([] : List ByteArray) i h0 h1
  have hc : ∀ j u, c[j]? = some u → w.cell? (ad.add (i.toNat * 1 + j)) = some u := hc0
  obtain ⟨A0, c0, rfl, l0, g0⟩ := hK
  exact ⟨ad, A0, c0, e, by have hq := hc 0 _ rfl; rwa [Nat.mul_one, Nat.add_zero] at hq, l0, g0⟩

/-! #### struct type 34 -/
structure S34 where
  f0 : Int
  f1 : Int
  f2 : Int
  f3 : ByteArray
  f4 : (List (List ByteArray))
  f5 : ByteArray
def z34 : S34 := ⟨(0 : Int), (0 : Int), (0 : Int), (⟨#[]⟩ : ByteArray), ([] : List (List ByteArray)), (⟨#[]⟩ : ByteArray)⟩
def k34 : Kd S34 := Kd.iso (Kd.pair (Kd.int .i64) (Kd.pair (Kd.int .i64) (Kd.pair (Kd.int .i64) (Kd.pair Kd.string (Kd.pair (Kd.slice 37 (Kd.slice 9 Kd.string)) Kd.string))))) (fun x : S34 => (x.f0, x.f1, x.f2, x.f3, x.f4, x.f5))
theorem k34_open {w : World} {x : S34} {cs : List Value} (h : k34.K w x cs) : ∃ A4 c4, cs = [.int .i64 x.f0, .int .i64 x.f1, .int .i64 x.f2, .string x.f3, .slice A4 x.f4.length c4, .string x.f5] ∧ x.f4.length ≤ c4 ∧ (Kd.slice 9 Kd.string).C w A4 x.f4.length x.f4 := by
  obtain ⟨_, _, rfl, rfl, ⟨_, _, rfl, rfl, ⟨_, _, rfl, rfl, ⟨_, _, rfl, rfl, ⟨_, _, rfl, ⟨A4, c4, rfl, l4, g4⟩, rfl⟩⟩⟩⟩⟩ := h
  exact ⟨A4, c4, rfl, l4, g4⟩
def rd_T34 (xs : List S34) (i : Int) : S34 := xs.getD i.toNat z34
theorem at_T34 {w : World} {A : Option Addr} {n : Nat} {xs : List S34} (h : Kd.C k34 w A n xs) (i : Int) (h0 : 0 ≤ i) (h1 : i < n) : ∃ ad A4 c4, A = some ad ∧ w.cell? (ad.add (i.toNat * 6)) = some (.int .i64 (rd_T34 xs i).f0) ∧ w.cell? ⟨(ad.add (i.toNat * 6)).block, (ad.add (i.toNat * 6)).off + 1, none⟩ = some (.int .i64 (rd_T34 xs i).f1) ∧ w.cell? ⟨(ad.add (i.toNat * 6)).block, (ad.add (i.toNat * 6)).off + 2, none⟩ = some (.int .i64 (rd_T34 xs i).f2) ∧ w.cell? ⟨(ad.add (i.toNat * 6)).block, (ad.add (i.toNat * 6)).off + 3, none⟩ = some (.string (rd_T34 xs i).f3) ∧ w.cell? ⟨(ad.add (i.toNat * 6)).block, (ad.add (i.toNat * 6)).off + 4, none⟩ = some (.slice A4 (rd_T34 xs i).f4.length c4) ∧ w.cell? ⟨(ad.add (i.toNat * 6)).block, (ad.add (i.toNat * 6)).off + 5, none⟩ = some (.string (rd_T34 xs i).f5) ∧ (rd_T34 xs i).f4.length ≤ c4 ∧ (Kd.slice 9 Kd.string).C w A4 (rd_T34 xs i).f4.length (rd_T34 xs i).f4 := by
  obtain ⟨ad, c, e, _, hK, hc0⟩ := Kd.C_get h z34 i h0 h1
  have hc : ∀ j u, c[j]? = some u → w.cell? (ad.add (i.toNat * 6 + j)) = some u := hc0
  obtain ⟨A4, c4, rfl, l4, g4⟩ := k34_open hK
  exact ⟨ad, A4, c4, e, hc 0 _ rfl, by rw [← add_field _ _ 1 (by omega)]; exact hc 1 _ rfl, by rw [← add_field _ _ 2 (by omega)]; exact hc 2 _ rfl, by rw [← add_field _ _ 3 (by omega)]; exact hc 3 _ rfl, by rw [← add_field _ _ 4 (by omega)]; exact hc 4 _ rfl, by rw [← add_field _ _ 5 (by omega)]; exact hc 5 _ rfl, l4, g4⟩

/-! #### struct type 89 -/
structure S89 where
  f0 : ByteArray
  f1 : ByteArray
  f2 : Int
def z89 : S89 := ⟨(⟨#[]⟩ : ByteArray), (⟨#[]⟩ : ByteArray), (0 : Int)⟩
def k89 : Kd S89 := Kd.iso (Kd.pair Kd.string (Kd.pair Kd.string (Kd.int .i64))) (fun x : S89 => (x.f0, x.f1, x.f2))
theorem k89_open {w : World} {x : S89} {cs : List Value} (h : k89.K w x cs) : cs = [.string x.f0, .string x.f1, .int .i64 x.f2] := by
  obtain ⟨_, _, rfl, rfl, ⟨_, _, rfl, rfl, rfl⟩⟩ := h
  exact rfl
theorem k89_mkM (w : World) (base : Nat) (ok : Nat → Prop) (x : S89)  : k89.M w base ok x [.string x.f0, .string x.f1, .int .i64 x.f2] := ⟨[.string x.f0], [.string x.f1, .int .i64 x.f2], rfl, rfl, ⟨[.string x.f1], [.int .i64 x.f2], rfl, rfl, rfl⟩⟩
def rd_T89 (xs : List S89) (i : Int) : S89 := xs.getD i.toNat z89
theorem at_T89 {w : World} {A : Option Addr} {n : Nat} {xs : List S89} (h : Kd.C k89 w A n xs) (i : Int) (h0 : 0 ≤ i) (h1 : i < n) : ∃ ad , A = some ad ∧ w.cell? (ad.add (i.toNat * 3)) = some (.string (rd_T89 xs i).f0) ∧ w.cell? ⟨(ad.add (i.toNat * 3)).block, (ad.add (i.toNat * 3)).off + 1, none⟩ = some (.string (rd_T89 xs i).f1) ∧ w.cell? ⟨(ad.add (i.toNat * 3)).block, (ad.add (i.toNat * 3)).off + 2, none⟩ = some (.int .i64 (rd_T89 xs i).f2) := by
  obtain ⟨ad, c, e, _, hK, hc0⟩ := Kd.C_get h z89 i h0 h1
  have hc : ∀ j u, c[j]? = some u → w.cell? (ad.add (i.toNat * 3 + j)) = some u := hc0
  obtain rfl := k89_open hK
  exact ⟨ad, e, hc 0 _ rfl, by rw [← add_field _ _ 1 (by omega)]; exact hc 1 _ rfl, by rw [← add_field _ _ 2 (by omega)]; exact hc 2 _ rfl⟩

end Go.Proofs.YtgdanenhbjfhaaaGreatDoor.F
/- What a call may change: the blocks of a set, and whatever is new. -/
namespace Go.Proofs.YtgdanenhbjfhaaaGreatDoor.Fr
set_option linter.unusedVariables false
set_option linter.unusedSimpArgs false
open Go.RowKit
/-- W is w, but for blocks of S, and blocks that are new. -/
structure Chg (S : Nat → Prop) (w W : World) : Prop where
  os : W.os = w.os
  tape : W.tape = w.tape
  output : W.output = w.output
  size : w.heap.size ≤ W.heap.size
  block : ∀ k, k < w.heap.size → ¬ S k → W.heap[k]? = w.heap[k]?
section
variable {S S' : Nat → Prop} {w W W2 : World}
theorem Chg.refl (S : Nat → Prop) (w : World) : Chg S w w := ⟨rfl, rfl, rfl, Nat.le_refl _, fun _ _ _ => rfl⟩
theorem Chg.of_below (h : Below w.heap.size w W) (S : Nat → Prop) : Chg S w W := ⟨h.os, h.tape, h.output, h.size, fun k hk _ => h.block k hk⟩
theorem Chg.mono (h : Chg S w W) (hs : ∀ k, k < w.heap.size → S k → S' k) : Chg S' w W := ⟨h.os, h.tape, h.output, h.size, fun k hk hn => h.block k hk fun e => hn (hs k hk e)⟩
theorem Chg.trans (h : Chg S w W) (k : Chg S' W W2) (hs : ∀ i, i < w.heap.size → S' i → S i) : Chg S w W2 :=
  ⟨k.os.trans h.os, k.tape.trans h.tape, k.output.trans h.output, Nat.le_trans h.size k.size, fun i hi hn => (k.block i (Nat.lt_of_lt_of_le hi h.size) fun e => hn (hs i hi e)).trans (h.block i hi hn)⟩
theorem Chg.below (h : Chg S w W) (hb : Below W.heap.size W W2) : Chg S w W2 := h.trans (Chg.of_below hb fun _ => False) fun _ _ e => e.elim
theorem Chg.alloc (h : Chg S w W) (o : Obj) : Chg S w (W.alloc o) := h.below ((Below.refl _ _).alloc (Nat.le_refl _) _)
theorem Chg.drew (h : Chg S w W) : Chg S w W.drew := ⟨h.os, h.tape, h.output, h.size, h.block⟩
theorem Chg.drewN (h : Chg S w W) (n : Nat) : Chg S w (W.drewN n) := ⟨h.os, h.tape, h.output, h.size, h.block⟩
theorem Chg.setCell (h : Chg S w W) {p : Addr} (hp : p.block < w.heap.size → S p.block) (u : Value) : Chg S w (W.setCell p u) :=
  ⟨h.os, h.tape, h.output, by simpa using h.size, fun k hk hn => (Below.heap_setCell W p u k fun e => hn (by subst e; exact hp hk)).trans (h.block k hk hn)⟩
theorem Chg.grown (h : Chg S w W) {row : Option Nat} (hg : W.grownBy W2 row) (hr : ∀ k, row = some k → k < w.heap.size → S k) : Chg S w W2 :=
  ⟨hg.os.trans h.os, hg.tape.trans h.tape, hg.output.trans h.output, Nat.le_trans h.size hg.size, fun k hk hn => (hg.block k (Nat.lt_of_lt_of_le hk h.size) fun e => hn (hr k e.symm hk)).trans (h.block k hk hn)⟩
/-- All that may change is new since B: it is as it was below B. -/
theorem Chg.to_below (h : Chg S w W) {B : Nat} (hB : B ≤ w.heap.size) (hs : ∀ k, S k → B ≤ k) : Below B w W :=
  ⟨h.os, h.tape, h.output, h.size, fun k hk => h.block k (by omega) fun e => by have := hs k e; omega⟩
theorem Chg.cell (h : Chg S w W) {p : Addr} (hp : p.block < w.heap.size) (hn : ¬ S p.block) : W.cell? p = w.cell? p := World.cell?_of_block (h.block _ hp hn)
theorem Chg.frozen (h : Chg S w W) {p : Addr} (hp : p.block < w.heap.size) (hn : ¬ S p.block) : W.frozen? p = w.frozen? p := World.frozen?_of_block (h.block _ hp hn)
end
end Go.Proofs.YtgdanenhbjfhaaaGreatDoor.Fr
/- A tree of files, plain: rows of files in the order of their paths, and what changes make of them. -/
namespace Go.Proofs.YtgdanenhbjfhaaaGreatDoor.Fr
open Go.RowKit Go.Proofs.YtgdanenhbjfhaaaGreatDoor.F
set_option linter.unusedVariables false
set_option linter.unusedSimpArgs false
/-- A file: its path (f0), its text (f1), its time (f2). -/
abbrev Fl := S89
/-- A change: its kind (f0: 1 written, 2 appended, 3 removed, 4 renamed), path (f1), text (f2), time (f3). -/
structure Cg where
  f0 : Int
  f1 : ByteArray
  f2 : ByteArray
  f3 : Int
def ltB (a b : ByteArray) : Bool := bytesBefore a.data.toList b.data.toList
def dropF (l : List Fl) (p : ByteArray) : List Fl := l.filter fun f => !(f.f0.data.toList == p.data.toList)
def insF (f : Fl) : List Fl → List Fl
  | [] => [f]
  | g :: r => if ltB f.f0 g.f0 = true then f :: g :: r else g :: insF f r
def putF (l : List Fl) (f : Fl) : List Fl := insF f (dropF l f.f0)
def findF (l : List Fl) (p : ByteArray) : Option Fl := l.find? fun f => f.f0.data.toList == p.data.toList
def textF (l : List Fl) (p : ByteArray) : ByteArray := match findF l p with | some f => f.f1 | none => ⟨#[]⟩
/-- Files after a change. -/
def afterF (l : List Fl) (c : Cg) : List Fl :=
  if c.f0 = 1 then putF l ⟨c.f1, c.f2, c.f3⟩
  else if c.f0 = 2 then putF l ⟨c.f1, textF l c.f1 ++ c.f2, c.f3⟩
  else if c.f0 = 3 then dropF l c.f1
  else match findF l c.f1 with
    | none => l
    | some f => putF (dropF l c.f1) ⟨c.f2, f.f1, f.f2⟩
def usedF (l : List Fl) : Nat := (l.map fun f => f.f1.size).sum
/-- Is a one of the directories of b? -/
def wayF (a b : ByteArray) : Bool := (a.data.toList ++ [47]).isPrefixOf b.data.toList
/-! ### the map's datum -/
abbrev DW := DataW Unit
def fval (f : Fl) : DW := .agg [.lit (.string f.f1.data.toList), .lit (.int .i64 f.f2)]
def fent (f : Fl) : Lit × DW := (.string f.f0.data.toList, fval f)
def fdat (l : List Fl) : DW := .map (l.map fent)
theorem fent_before (f g : Fl) : (fent f).1.before (fent g).1 = ltB f.f0 g.f0 := rfl
theorem fdat_ins (f : Fl) (l : List Fl) : DataW.insert (fent f) (l.map fent) = (insF f l).map fent := by
  induction l with
  | nil => rfl
  | cons g r ih =>
    rw [List.map_cons, DataW.insert, fent_before, insF]
    by_cases h : ltB f.f0 g.f0 = true
    · rw [if_pos h, if_pos h]; rfl
    · rw [if_neg h, if_neg h, ih]; rfl
theorem fdat_filter (l : List Fl) (p : ByteArray) : (l.map fent).filter (fun x => !x.1.sameKey (.string p.data.toList)) = (dropF l p).map fent := by
  unfold dropF
  rw [List.filter_map]
  rfl
theorem fdat_put (l : List Fl) (f : Fl) : (fdat l).put (.string f.f0.data.toList) (fval f) = fdat (putF l f) := by
  show DataW.map (DataW.insert (fent f) ((l.map fent).filter _)) = DataW.map ((insF f (dropF l f.f0)).map fent)
  rw [fdat_filter, fdat_ins]
theorem fdat_del (l : List Fl) (p : ByteArray) : (fdat l).del (.string p.data.toList) = fdat (dropF l p) := by
  show DataW.map ((l.map fent).filter _) = DataW.map ((dropF l p).map fent)
  rw [fdat_filter]
theorem fdat_find (l : List Fl) (p : ByteArray) (z : DW) : (fdat l).atKey (.string p.data.toList) z = match findF l p with | some f => fval f | none => z := by
  unfold fdat DataW.atKey findF
  simp only [List.find?_map]
  have e : ((fun x : Lit × DW => x.1.sameKey (.string p.data.toList)) ∘ fent) = fun f : Fl => f.f0.data.toList == p.data.toList := rfl
  rw [e]
  cases l.find? fun f => f.f0.data.toList == p.data.toList <;> rfl
theorem fdat_has (l : List Fl) (p : ByteArray) : Maps.has (fdat l) (.string p.data.toList) = (findF l p).isSome := by
  show (l.map fent).any _ = _
  unfold findF
  rw [List.any_map]
  show l.any (fun f : Fl => f.f0.data.toList == p.data.toList) = _
  induction l with
  | nil => rfl
  | cons f r ih =>
    rw [List.any_cons, List.find?_cons]
    cases h : f.f0.data.toList == p.data.toList
    · rw [Bool.false_or]; exact ih
    · rfl
theorem fdat_size (l : List Fl) : Maps.size (fdat l) = l.length := by
  show (l.map fent).length = _
  rw [List.length_map]
end Go.Proofs.YtgdanenhbjfhaaaGreatDoor.Fr
/- The reference's way. -/
namespace Go.Proofs.YtgdanenhbjfhaaaGreatDoor.Fr
open Go.RowKit Go.Proofs.YtgdanenhbjfhaaaGreatDoor.F Go.Proofs.YtgdanenhbjfhaaaGreatDoorW.PrintWords
set_option linter.unusedVariables false
set_option linter.unusedSimpArgs false
def wayR (a b : ByteArray) : Bool := decide (a.size < b.size) && (b.data.toList.take a.size == a.data.toList) && (b.data.toList[a.size]? == some 47)
def cooperageref5_way.f (a b : ByteArray) : Option Bool := some (wayR a b)
theorem wayR_true {a b : ByteArray} (h1 : a.size < b.size) (h2 : (b.extract 0 a.size).toList = a.toList) : wayR a b = ((b[a.size].toNat : Int) == 47) := by
  unfold wayR
  rw [ByteArray.toList_eq, ByteArray.toList_eq] at h2
  have h2' : b.data.toList.take a.size = a.data.toList := by
    rw [← h2]
    simp
  have hlt : a.size < b.data.toList.length := by simpa using h1
  rw [decide_eq_true h1, h2', List.getElem?_eq_getElem hlt, beq_self_eq_true, Bool.true_and, Bool.true_and]
  have hg : b.data.toList[a.size] = b[a.size] := by simp [ByteArray.getElem_eq_getElem_data]
  rw [hg, Bool.eq_iff_iff, beq_iff_eq, beq_iff_eq]
  constructor
  · intro h
    rw [Option.some.inj h]
    rfl
  · intro h
    exact congrArg some (UInt8.toNat_inj.1 (by show _ = 47; omega))
theorem wayR_false {a b : ByteArray} (h2 : ¬ (b.extract 0 a.size).toList = a.toList) : wayR a b = false := by
  unfold wayR
  rw [ByteArray.toList_eq, ByteArray.toList_eq] at h2
  have h2' : (b.data.toList.take a.size == a.data.toList) = false := by
    rw [beq_eq_false_iff_ne]
    intro h
    apply h2
    rw [← h]
    simp
  rw [h2']
  simp
set_option maxHeartbeats 800000 in
theorem way_walk (a b : ByteArray) (w : World) : Calls Tryz.prog 87 #[.string a, .string b] w fun e w' => e = .returned (.bool (wayR a b)) ∧ Drawn0 w w' := by
  by_cases h1 : a.size < b.size
  · have h1' : (a.size : Int) < (b.size : Int) := by omega
    have h2' : (a.size : Int) ≤ (b.size : Int) := by omega
    by_cases h2 : (b.extract 0 a.size).toList = a.toList
    · have h3 := Lib.hid (wayR_true h1 h2)
      have he : ((b.extract 0 a.size).toList == a.toList) = true := beq_iff_eq.2 h2
      clear h2
      go_enter Tryz.func87, Tryz.ntmps87
      go_wp2
      go_ret
      exact ⟨by rw [h3.out]; rfl, Drawn0.refl _⟩
    · have h3 := Lib.hid (wayR_false h2)
      have he : ((b.extract 0 a.size).toList == a.toList) = false := by simpa using h2
      clear h2
      go_enter Tryz.func87, Tryz.ntmps87
      go_wp2
      go_ret
      exact ⟨by rw [h3.out]; rfl, Drawn0.refl _⟩
  · have h3 : Hid (wayR a b = false) := by
      unfold wayR
      rw [Hid, decide_eq_false h1]
      rfl
    have h1' : ¬ (a.size : Int) < (b.size : Int) := by omega
    go_enter Tryz.func87, Tryz.ntmps87
    go_wp2
    go_ret
    exact ⟨by rw [h3.out]; rfl, Drawn0.refl _⟩
theorem cooperageref5_way.calls (a b : ByteArray) (r : Bool) (w : World) (h : cooperageref5_way.f a b = some r) :
    Calls Tryz.prog 87 #[.string a, .string b] w fun e w' => e = .returned (.bool r) ∧ Drawn0 w w' := by
  obtain rfl := Option.some.inj h
  exact way_walk a b w
end Go.Proofs.YtgdanenhbjfhaaaGreatDoor.Fr
namespace Go.Proofs.YtgdanenhbjfhaaaGreatDoor.F
open Go.Proofs.YtgdanenhbjfhaaaGreatDoor.Fr
open Go.Proofs.YtgdanenhbjfhaaaGreatDoor
open Go.RowKit Go.Proofs.YtgdanenhbjfhaaaGreatDoorW.PrintWords Go.Proofs.YtgdanenhbjfhaaaGreatDoorW.PrintLast Go.Proofs.YtgdanenhbjfhaaaGreatDoorW.PrintMore
attribute [local go_sem] max2_int min2_int max_two min_two max_three min_three max_four min_four   -- for this text's walks alone
set_option linter.unusedVariables false
set_option linter.unusedSimpArgs false

/-! ### cooperagelaw6_pick: function 7 -/
def cooperagelaw6_pick.f (a0 : Int) (a1 : Int) : Option (Int) := if a0 < 0 then (if a1 = 0 then (none) else (some (Int.tmod (wrap64 (-(wrap64 (a0 + 1)))) a1))) else (if a1 = 0 then (none) else (some (Int.tmod a0 a1)))
set_option maxHeartbeats 8000000 in
set_option maxRecDepth 100000 in
theorem cooperagelaw6_pick.calls (a0 : Int) (a1 : Int) (r : Int) (w : World) (h : cooperagelaw6_pick.f a0 a1 = some r) :
    Calls Tryz.prog 7 #[.int .i64 a0, .int .i64 a1] w fun e w' => e = .returned (.int .i64 r) ∧ Drawn0 w w' := by
  have H : (if a0 < 0 then (if a1 = 0 then (none) else (some (Int.tmod (wrap64 (-(wrap64 (a0 + 1)))) a1))) else (if a1 = 0 then (none) else (some (Int.tmod a0 a1)))) = some r := h
  clear h
  by_cases c3 : a0 < 0
  · rw [if_pos c3] at H
    have c3b0 : decide (a0 < 0) = true := decide_eq_true c3
    clear c3
    by_cases c4 : a1 = 0
    · rw [if_pos c4] at H
      exact absurd H (by simp)
    · rw [if_neg c4] at H
      have c4b0 : (a1 == 0) = false := beq_eq_false_iff_ne.mpr c4
      have c4b1 : (a1 != 0) = true := bne_iff_ne.mpr c4
      obtain rfl := Option.some.inj H
      go_enter Tryz.func7, Tryz.ntmps7
      go_wp2
      go_ret
      exact ⟨by first | rfl | (simp; done) | (simp [*]; done), by repeat (first | exact Drawn0.refl _ | apply Drawn0.step)⟩
  · rw [if_neg c3] at H
    have c3b0 : decide (a0 < 0) = false := decide_eq_false c3
    clear c3
    by_cases c5 : a1 = 0
    · rw [if_pos c5] at H
      exact absurd H (by simp)
    · rw [if_neg c5] at H
      have c5b0 : (a1 == 0) = false := beq_eq_false_iff_ne.mpr c5
      have c5b1 : (a1 != 0) = true := bne_iff_ne.mpr c5
      obtain rfl := Option.some.inj H
      go_enter Tryz.func7, Tryz.ntmps7
      go_wp2
      go_ret
      exact ⟨by first | rfl | (simp; done) | (simp [*]; done), by repeat (first | exact Drawn0.refl _ | apply Drawn0.step)⟩

end Go.Proofs.YtgdanenhbjfhaaaGreatDoor.F
