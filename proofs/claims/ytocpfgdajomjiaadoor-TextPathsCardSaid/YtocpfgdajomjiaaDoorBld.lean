import Derived.Test.YtocpfgdajomjiaaDoorShelf
import Derived.Shelf.Strings.BuilderK
import Derived.Lib.Hide
import Derived.Outline
namespace Go.Proofs.YtocpfgdajomjiaaDoor.Hand
open Go.RowKit
set_option linter.unusedVariables false
set_option linter.unusedSimpArgs false
set_option maxHeartbeats 1000000 in
set_option maxRecDepth 100000 in
theorem copyCheck_used (b : Nat) (v : Value) (w : World) (hb : w.heap[b]? = some (.cells #[.pointer (some ⟨b, 0, none⟩), v] 59 (0, 0))) :
    Calls Tryd.prog 75 #[.pointer (some ⟨b, 0, none⟩)] w fun e w' => e = .returned (.tuple #[]) ∧ w' = w := by
  have c0 : w.cell? ⟨b, 0, none⟩ = some (.pointer (some ⟨b, 0, none⟩)) := by rw [Lib.cell_of_heap hb]; rfl
  clear hb
  obtain ⟨j, hj, _⟩ := Option.map_eq_some_iff.1 Tryd.Builder_Extra_169.sizeBuilder
  go_enter Tryd.func75, Tryd.ntmps75
  go_wp2
  rw [Lib.run_neq_ptr_same w _ Tryd.underlying57 hj]
  go_wp2
  go_end0
  exact ⟨rfl, rfl⟩
set_option maxHeartbeats 1000000 in
set_option maxRecDepth 100000 in
theorem copyCheck_fresh (b : Nat) (v : Value) (w : World) (hb : w.heap[b]? = some (.cells #[.pointer none, v] 59 (0, 0))) :
    Calls Tryd.prog 75 #[.pointer (some ⟨b, 0, none⟩)] w fun e w' => e = .returned (.tuple #[]) ∧ w' = w.setCell ⟨b, 0, none⟩ (.pointer (some ⟨b, 0, none⟩)) := by
  have c0 : w.cell? ⟨b, 0, none⟩ = some (.pointer none) := by rw [Lib.cell_of_heap hb]; rfl
  have f0 : w.frozen? ⟨b, 0, none⟩ = false := Lib.frozen_of_heap hb 0
  have hsh : w.shape? b = some (59, 2) := by simp [World.shape?, hb]
  clear hb
  obtain ⟨j, hj, hjs⟩ := Option.map_eq_some_iff.1 Tryd.Builder_Extra_169.sizeBuilder
  go_enter Tryd.func75, Tryd.ntmps75
  go_wp2
  rw [Lib.run_to_unsafe w ⟨b, 0, none⟩ Tryd.underlying57 Tryd.underlying99 hj (by rw [hjs]; decide) hsh (Nat.zero_lt_succ 1)]
  simp only [Result.andThen]
  rw [Oper.upon_value]
  go_wp2
  rw [run_callFunc_extern Tryd.func98 (by kernel_rfl) (by kernel_rfl) (by kernel_rfl) (e := Extern.AbiNoEscape.same) (by kernel_rfl)]
  rw [Lib.run_noEscape]
  simp only [Result.andThen]
  rw [Oper.upon_value]
  go_wp2
  rw [Lib.run_from_unsafe w ⟨b, 0, none⟩ Tryd.underlying99 Tryd.underlying57 hj hsh Tryd.Builder_Extra_169.liesBuilder]
  simp only [Result.andThen]
  rw [Oper.upon_value]
  go_wp2
  go_end0
  exact ⟨rfl, rfl⟩

/-- Block b is a builder that holds bs, in a row of its own from B1 on. -/
def Bld (b B1 : Nat) (bs : List Value) (w : World) : Prop := b < B1 ∧ B1 ≤ w.heap.size ∧ ∃ p v, (p = .pointer none ∨ p = .pointer (some ⟨b, 0, none⟩)) ∧ w.heap[b]? = some (.cells #[p, v] 59 (0, 0)) ∧ w.ownsRowF B1 5 1 v bs.length bs
/-- What lay below B1, but for block b, lies as it lay. -/
structure Apart (b B1 : Nat) (w w' : World) : Prop where
  os : w'.os = w.os
  tape : w'.tape = w.tape
  output : w'.output = w.output
  size : w.heap.size ≤ w'.heap.size
  block : ∀ k, k < B1 → k ≠ b → w'.heap[k]? = w.heap[k]?
theorem Apart.refl (b B1 : Nat) (w : World) : Apart b B1 w w := ⟨rfl, rfl, rfl, Nat.le_refl _, fun _ _ _ => rfl⟩
theorem Apart.trans {b B1 : Nat} {w w1 w2 : World} (h : Apart b B1 w w1) (k : Apart b B1 w1 w2) : Apart b B1 w w2 := ⟨k.os.trans h.os, k.tape.trans h.tape, k.output.trans h.output, Nat.le_trans h.size k.size, fun i hi hb => (k.block i hi hb).trans (h.block i hi hb)⟩
theorem Apart.below {b B1 : Nat} {w w' : World} (h : Apart b B1 w w') (hb : b < B1) : Below b w w' := ⟨h.os, h.tape, h.output, h.size, fun k hk => h.block k (by omega) (by omega)⟩
theorem Apart.set {b B1 : Nat} (w : World) (o : Nat) (v : Value) : Apart b B1 w (w.setCell ⟨b, o, none⟩ v) := ⟨rfl, rfl, rfl, by simp [World.setCell], fun k _ hk => Below.heap_setCell _ _ _ _ hk⟩
theorem Apart.grown {b B1 : Nat} {w w1 : World} {row : Option Nat} (hg : w.grownBy w1 row) (hB : B1 ≤ w.heap.size) (hr : ∀ k, row = some k → B1 ≤ k) : Apart b B1 w w1 :=
  ⟨hg.os, hg.tape, hg.output, hg.size, fun k hk _ => hg.block k (by omega) (fun e => by have := hr k e.symm; omega)⟩
theorem Apart.alloc {b B1 : Nat} (w : World) (o : Obj) (hB : B1 ≤ w.heap.size) : Apart b B1 w (w.alloc o) := Apart.grown (World.grownBy_alloc w o none) hB (fun k e => by cases e)
theorem Apart.cell {b B1 : Nat} {w w' : World} (h : Apart b B1 w w') {p : Addr} (h1 : p.block < B1) (h2 : p.block ≠ b) : w'.cell? p = w.cell? p := World.cell?_of_block (h.block _ h1 h2)
theorem heap_set0 {w : World} {b : Nat} {x y u : Value} (h : w.heap[b]? = some (.cells #[x, y] 59 (0, 0))) : (w.setCell ⟨b, 0, none⟩ u).heap[b]? = some (.cells #[u, y] 59 (0, 0)) := by
  simp [World.setCell, Array.getElem?_modify, h]
theorem heap_set1 {w : World} {b : Nat} {x y u : Value} (h : w.heap[b]? = some (.cells #[x, y] 59 (0, 0))) : (w.setCell ⟨b, 1, none⟩ u).heap[b]? = some (.cells #[x, u] 59 (0, 0)) := by
  simp [World.setCell, Array.getElem?_modify, h]
theorem grownSet (w : World) (b o : Nat) (v : Value) : w.grownBy (w.setCell ⟨b, o, none⟩ v) (some b) := ⟨rfl, rfl, rfl, by simp [World.setCell], fun k _ hk => Below.heap_setCell _ _ _ _ (fun e => hk (by rw [e]))⟩
theorem copyCheck (b B1 : Nat) (bs : List Value) (w : World) (h : Bld b B1 bs w) :
    Calls Tryd.prog 75 #[.pointer (some ⟨b, 0, none⟩)] w fun e w' => e = .returned (.tuple #[]) ∧ (∃ v, w'.heap[b]? = some (.cells #[.pointer (some ⟨b, 0, none⟩), v] 59 (0, 0)) ∧ w'.ownsRowF B1 5 1 v bs.length bs) ∧ B1 ≤ w'.heap.size ∧ Apart b B1 w w' := by
  obtain ⟨h1, h2, p, v, hp, hb, hown⟩ := h
  rcases hp with rfl | rfl
  · refine (copyCheck_fresh b v w hb).mono ?_
    rintro e w' ⟨rfl, rfl⟩
    refine ⟨rfl, ⟨v, heap_set0 hb, hown.kept (grownSet w b 0 _) (.inr (Lib.ownBlock_neF hown hb (by decide)))⟩, by simpa using h2, Apart.set w 0 _⟩
  · refine (copyCheck_used b v w hb).mono ?_
    rintro e w' ⟨rfl, rfl⟩
    exact ⟨rfl, ⟨v, hb, hown⟩, h2, Apart.refl _ _ _⟩
set_option maxHeartbeats 1000000 in
set_option maxRecDepth 100000 in
theorem writeByte (b B1 : Nat) (bs : List Value) (c : Int) (w : World) (h : Bld b B1 bs w) (hlen : bs.length + 1 ≤ 100000000) :
    Calls Tryd.prog 53 #[.pointer (some ⟨b, 0, none⟩), .int .u8 c] w fun e w' => e = .returned .nilIface ∧ Bld b B1 (bs ++ [.int .u8 c]) w' ∧ Apart b B1 w w' := by
  have hcc := Lib.hid (copyCheck b B1 bs w h)
  have hb1 := h.1
  clear h
  obtain ⟨i0, hi, hz0, hz1, hz2⟩ := info_parts Tryd.Builder_Extra_169.infoByte
  go_enter Tryd.func53, Tryd.ntmps53
  go_wp2_with (go_at_call 75; refine hcc.out.mono ?_)
  rintro e w1 ⟨rfl, ⟨v, hbk, hown⟩, hB, hA⟩
  have c0 : w1.cell? ⟨b, 0, none⟩ = some (.pointer (some ⟨b, 0, none⟩)) := by rw [Lib.cell_of_heap hbk]; rfl
  have c1 : w1.cell? ⟨b, 1, none⟩ = some v := by rw [Lib.cell_of_heap hbk]; rfl
  go_wp2_with (at_builtin; refine wpList_append_ownF _ rfl _ _ 48 rfl B1 5 i0 (.int .u8 0) 1 1 Tryd.underlying48 hi hz0 hz1 hz2 rfl (by decide) _ _ _ rfl (hown.alloc _) ⟨w1.heap.size, 0, none⟩ 1 1 [.int .u8 c] rfl rfl ?c1 ?c2 ?c3 ?c4 ?c5 ?_)
  case c1 =>
    intro j u hj
    match j, hj with
    | 0, hj => simp at hj; subst hj; simp [Addr.add]
  case c2 => intro u hu; simp at hu; subst hu; rfl
  case c3 => unfold maxLen; omega
  case c4 => omega
  case c5 => simp; omega
  intro v' w2 hown' hgrow _
  have hlt : b < w1.heap.size := by omega
  have hne : v.ownBlock ≠ some b := Lib.ownBlock_neF hown hbk (by decide)
  have hb2 : w2.heap[b]? = some (.cells #[.pointer (some ⟨b, 0, none⟩), v] 59 (0, 0)) := by
    rw [hgrow.block b (by simp; omega) (fun e => hne e.symm), Lib.alloc_old w1 _ b hlt]
    exact hbk
  have d0 : w2.cell? ⟨b, 0, none⟩ = some (.pointer (some ⟨b, 0, none⟩)) := by rw [Lib.cell_of_heap hb2]; rfl
  have d1 : w2.cell? ⟨b, 1, none⟩ = some v := by rw [Lib.cell_of_heap hb2]; rfl
  have f1 : w2.frozen? ⟨b, 1, none⟩ = false := Lib.frozen_of_heap hb2 1
  obtain ⟨g, cap, rfl⟩ : ∃ g cap, v' = .slice (some ⟨g, 0, none⟩) (bs.length + 1) cap := by
    rcases hown'.2 with ⟨_, h0⟩ | ⟨g, cap, cur, fz, hv, _⟩
    · omega
    · exact ⟨g, cap, hv⟩
  have hA2 : Apart b B1 w1 w2 := (Apart.alloc w1 _ hB).trans (Apart.grown hgrow (by simp; omega) (fun k hk => (hown.lt k hk).1))
  have hs2 := hA2.size
  go_wp2
  go_ret
  refine ⟨rfl, ⟨hb1, by simp; omega, _, _, .inr rfl, heap_set1 hb2, ?_⟩, (hA.trans hA2).trans (Apart.set w2 1 _)⟩
  have := hown'.kept (grownSet w2 b 1 (.slice (some ⟨g, 0, none⟩) (bs.length + 1) cap)) (.inr (Lib.ownBlock_neF hown' hb2 (by decide)))
  simpa using this

set_option maxHeartbeats 1000000 in
set_option maxRecDepth 100000 in
theorem writeString (b B1 : Nat) (bs : List Value) (s : ByteArray) (w : World) (h : Bld b B1 bs w) (hlen : bs.length + s.size ≤ 100000000) :
    Calls Tryd.prog 64 #[.pointer (some ⟨b, 0, none⟩), .string s] w fun e w' => e = .returned (.tuple #[.int .i64 s.size, .nilIface]) ∧ Bld b B1 (bs ++ Lib.strCells s) w' ∧ Apart b B1 w w' := by
  have hcc := Lib.hid (copyCheck b B1 bs w h)
  have hb1 := h.1
  clear h
  obtain ⟨i0, hi, hz0, hz1, hz2⟩ := info_parts Tryd.Builder_Extra_169.infoByte
  go_enter Tryd.func64, Tryd.ntmps64
  go_wp2_with (go_at_call 75; refine hcc.out.mono ?_)
  rintro e w1 ⟨rfl, ⟨v, hbk, hown⟩, hB, hA⟩
  have c0 : w1.cell? ⟨b, 0, none⟩ = some (.pointer (some ⟨b, 0, none⟩)) := by rw [Lib.cell_of_heap hbk]; rfl
  have c1 : w1.cell? ⟨b, 1, none⟩ = some v := by rw [Lib.cell_of_heap hbk]; rfl
  go_wp2_with (at_builtin; refine Lib.wpList_append_own_stringF _ rfl _ _ 48 9 rfl B1 5 i0 Tryd.underlying48 Tryd.underlying9 hi hz0 hz1 hz2 _ _ _ rfl hown s rfl ?c3 ?c4 ?c5 ?_)
  case c3 => unfold maxLen; omega
  case c4 => omega
  case c5 => omega
  intro v' w2 hown' hgrow _
  have hlt : b < w1.heap.size := by omega
  have hne : v.ownBlock ≠ some b := Lib.ownBlock_neF hown hbk (by decide)
  have hb2 : w2.heap[b]? = some (.cells #[.pointer (some ⟨b, 0, none⟩), v] 59 (0, 0)) := by
    rw [hgrow.block b hlt (fun e => hne e.symm)]
    exact hbk
  have d0 : w2.cell? ⟨b, 0, none⟩ = some (.pointer (some ⟨b, 0, none⟩)) := by rw [Lib.cell_of_heap hb2]; rfl
  have d1 : w2.cell? ⟨b, 1, none⟩ = some v := by rw [Lib.cell_of_heap hb2]; rfl
  have f1 : w2.frozen? ⟨b, 1, none⟩ = false := Lib.frozen_of_heap hb2 1
  obtain ⟨ao, n', cap, hv'⟩ : ∃ ao n' cap, v' = .slice ao n' cap := by
    rcases hown'.2 with ⟨hv, _⟩ | ⟨g, cap, cur, fz, hv, _⟩
    · exact ⟨_, _, _, hv⟩
    · exact ⟨_, _, _, hv⟩
  subst hv'
  have hA2 : Apart b B1 w1 w2 := Apart.grown hgrow hB (fun k hk => (hown.lt k hk).1)
  have hs2 := hA2.size
  go_wp2
  go_ret2
  refine ⟨rfl, ⟨hb1, by simp; omega, _, _, .inr rfl, heap_set1 hb2, ?_⟩, (hA.trans hA2).trans (Apart.set w2 1 _)⟩
  have := hown'.kept (grownSet w2 b 1 (.slice ao n' cap)) (.inr (Lib.ownBlock_neF hown' hb2 (by decide)))
  have e : (bs ++ Lib.strCells s).length = bs.length + s.size := by
    rw [List.length_append, Lib.strCells, List.length_map, ← Lib.size_eq]
  rw [e]
  exact this
theorem bstring (b B1 : Nat) (l : List UInt8) (w : World) (h : Bld b B1 (Lib.byteCells l) w) :
    Calls Tryd.prog 54 #[.pointer (some ⟨b, 0, none⟩)] w fun e w' => e = .returned (.string ⟨l.toArray⟩) ∧ Below b w w' := by
  obtain ⟨h1, h2, p, v, hp, hb, hown⟩ := h
  have hlow : w.ownsRowF b 5 1 v (Lib.byteCells l).length (Lib.byteCells l) := by
    refine ⟨hown.1, ?_⟩
    rcases hown.2 with hz | ⟨g, cap, cur, fz, hv, hg, hr⟩
    · exact .inl hz
    · exact .inr ⟨g, cap, cur, fz, hv, by omega, hr⟩
  have hat : Lib.BuilderAtF 59 5 b b p (Lib.byteCells l) w := ⟨Nat.le_refl _, v, hb, hlow, Lib.ownBlock_neF hown hb (by decide)⟩
  refine (Tryd.Builder_String_any_f b b l w ?_ (by omega)).mono (fun e w' h => ⟨h.1, h.2.2⟩)
  rcases hp with rfl | rfl
  · exact .inl hat
  · exact .inr hat

end Go.Proofs.YtocpfgdajomjiaaDoor.Hand
