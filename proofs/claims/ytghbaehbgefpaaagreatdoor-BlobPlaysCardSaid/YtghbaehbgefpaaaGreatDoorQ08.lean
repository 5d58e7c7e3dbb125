import Derived.Test.YtghbaehbgefpaaaGreatDoorQ07
import Derived.Shelf.Strings.BuilderK
import Derived.Lib.Hide
import Derived.Outline
import Derived.Lib.Builder
import Derived.Test.YtghbaehbgefpaaaGreatDoorQ06
import Derived.Deep.RegionHeld3
import Derived.Deep.RegionWith
import Derived.RangeFuncRecord
import Derived.Lib.AppendIntMem
import Derived.Lib.ParseIntBCases
import Derived.Lib.SmallJoins
/- Several texts of this session in one: the walks of the functions that the laws reach, and what they tell. -/
set_option linter.unusedVariables false
set_option linter.unusedSimpArgs false
namespace Go.Proofs.YtghbaehbgefpaaaGreatDoor.Hand
open Go.RowKit
set_option maxHeartbeats 1000000 in
set_option maxRecDepth 100000 in
theorem copyCheck_used (b : Nat) (v : Value) (w : World) (hb : w.heap[b]? = some (.cells #[.pointer (some ⟨b, 0, none⟩), v] 125 (0, 0))) :
    Calls Tryz.prog 92 #[.pointer (some ⟨b, 0, none⟩)] w fun e w' => e = .returned (.tuple #[]) ∧ w' = w := by
  have c0 : w.cell? ⟨b, 0, none⟩ = some (.pointer (some ⟨b, 0, none⟩)) := by rw [Lib.cell_of_heap hb]; rfl
  clear hb
  obtain ⟨j, hj, _⟩ := Option.map_eq_some_iff.1 Tryz.Builder_Extra_169.sizeBuilder
  go_enter Tryz.func92, Tryz.ntmps92
  go_wp2
  rw [Lib.run_neq_ptr_same w _ Tryz.underlying123 hj]
  go_wp2
  go_end0
  exact ⟨rfl, rfl⟩
set_option maxHeartbeats 1000000 in
set_option maxRecDepth 100000 in
theorem copyCheck_fresh (b : Nat) (v : Value) (w : World) (hb : w.heap[b]? = some (.cells #[.pointer none, v] 125 (0, 0))) :
    Calls Tryz.prog 92 #[.pointer (some ⟨b, 0, none⟩)] w fun e w' => e = .returned (.tuple #[]) ∧ w' = w.setCell ⟨b, 0, none⟩ (.pointer (some ⟨b, 0, none⟩)) := by
  have c0 : w.cell? ⟨b, 0, none⟩ = some (.pointer none) := by rw [Lib.cell_of_heap hb]; rfl
  have f0 : w.frozen? ⟨b, 0, none⟩ = false := Lib.frozen_of_heap hb 0
  have hsh : w.shape? b = some (125, 2) := by simp [World.shape?, hb]
  clear hb
  obtain ⟨j, hj, hjs⟩ := Option.map_eq_some_iff.1 Tryz.Builder_Extra_169.sizeBuilder
  go_enter Tryz.func92, Tryz.ntmps92
  go_wp2
  rw [Lib.run_to_unsafe w ⟨b, 0, none⟩ Tryz.underlying123 Tryz.underlying161 hj (by rw [hjs]; decide) hsh (Nat.zero_lt_succ 1)]
  simp only [Result.andThen]
  rw [Oper.upon_value]
  go_wp2
  rw [run_callFunc_extern Tryz.func108 (by kernel_rfl) (by kernel_rfl) (by kernel_rfl) (e := Extern.AbiNoEscape.same) (by kernel_rfl)]
  rw [Lib.run_noEscape]
  simp only [Result.andThen]
  rw [Oper.upon_value]
  go_wp2
  rw [Lib.run_from_unsafe w ⟨b, 0, none⟩ Tryz.underlying161 Tryz.underlying123 hj hsh Tryz.Builder_Extra_169.liesBuilder]
  simp only [Result.andThen]
  rw [Oper.upon_value]
  go_wp2
  go_end0
  exact ⟨rfl, rfl⟩
def Bld (b B1 : Nat) (bs : List Value) (w : World) : Prop := b < B1 ∧ B1 ≤ w.heap.size ∧ ∃ p v, (p = .pointer none ∨ p = .pointer (some ⟨b, 0, none⟩)) ∧ w.heap[b]? = some (.cells #[p, v] 125 (0, 0)) ∧ w.ownsRowF B1 5 1 v bs.length bs
structure Apart (b B1 : Nat) (w w' : World) : Prop where
  os : w'.os = w.os
  tape : w'.tape = w.tape
  output : w'.output = w.output
  size : w.heap.size ≤ w'.heap.size
  block : ∀ k, k < B1 → k ≠ b → w'.heap[k]? = w.heap[k]?
theorem Apart.refl (b B1 : Nat) (w : World) : Apart b B1 w w := ⟨rfl, rfl, rfl, Nat.le_refl _, fun _ _ _ => rfl⟩
theorem Apart.trans {b B1 : Nat} {w w1 w2 : World} (h : Apart b B1 w w1) (k : Apart b B1 w1 w2) : Apart b B1 w w2 := ⟨k.os.trans h.os, k.tape.trans h.tape, k.output.trans h.output, Nat.le_trans h.size k.size, fun i hi hb => (k.block i hi hb).trans (h.block i hi hb)⟩
theorem Apart.below {b B1 : Nat} {w w' : World} (h : Apart b B1 w w') (hb : b < B1) : Below b w w' := ⟨h.os, h.tape, h.output, h.size, fun k hk => h.block k (by omega) (by omega)⟩
theorem Apart.set {b B1 : Nat} (w : World) (o : Nat) (v : Value) : Apart b B1 w (w.setCell ⟨b, o, none⟩ v) := ⟨rfl, rfl, rfl, by simp [World.setCell], fun k _ hk => Below.heap_setCell _ _ _ _ hk⟩
theorem Apart.grown {b B1 : Nat} {w w1 : World} {row : Option Nat} (hg : w.grownBy w1 row) (hB : B1 ≤ w.heap.size) (hr : ∀ k, row = some k → B1 ≤ k) : Apart b B1 w w1 :=
  ⟨hg.os, hg.tape, hg.output, hg.size, fun k hk _ => hg.block k (by omega) (fun e => by have := hr k e.symm; omega)⟩
theorem Apart.alloc {b B1 : Nat} (w : World) (o : Obj) (hB : B1 ≤ w.heap.size) : Apart b B1 w (w.alloc o) := Apart.grown (World.grownBy_alloc w o none) hB (fun k e => by cases e)
theorem Apart.cell {b B1 : Nat} {w w' : World} (h : Apart b B1 w w') {p : Addr} (h1 : p.block < B1) (h2 : p.block ≠ b) : w'.cell? p = w.cell? p := World.cell?_of_block (h.block _ h1 h2)
theorem heap_set0 {w : World} {b : Nat} {x y u : Value} (h : w.heap[b]? = some (.cells #[x, y] 125 (0, 0))) : (w.setCell ⟨b, 0, none⟩ u).heap[b]? = some (.cells #[u, y] 125 (0, 0)) := by
  simp [World.setCell, Array.getElem?_modify, h]
theorem heap_set1 {w : World} {b : Nat} {x y u : Value} (h : w.heap[b]? = some (.cells #[x, y] 125 (0, 0))) : (w.setCell ⟨b, 1, none⟩ u).heap[b]? = some (.cells #[x, u] 125 (0, 0)) := by
  simp [World.setCell, Array.getElem?_modify, h]
theorem grownSet (w : World) (b o : Nat) (v : Value) : w.grownBy (w.setCell ⟨b, o, none⟩ v) (some b) := ⟨rfl, rfl, rfl, by simp [World.setCell], fun k _ hk => Below.heap_setCell _ _ _ _ (fun e => hk (by rw [e]))⟩
theorem copyCheck (b B1 : Nat) (bs : List Value) (w : World) (h : Bld b B1 bs w) :
    Calls Tryz.prog 92 #[.pointer (some ⟨b, 0, none⟩)] w fun e w' => e = .returned (.tuple #[]) ∧ (∃ v, w'.heap[b]? = some (.cells #[.pointer (some ⟨b, 0, none⟩), v] 125 (0, 0)) ∧ w'.ownsRowF B1 5 1 v bs.length bs) ∧ B1 ≤ w'.heap.size ∧ Apart b B1 w w' := by
  obtain ⟨h1, h2, p, v, hp, hb, hown⟩ := h
  rcases hp with rfl | rfl
  · refine (copyCheck_fresh b v w hb).mono ?_
    rintro e w' ⟨rfl, rfl⟩
    refine ⟨rfl, ⟨v, heap_set0 hb, hown.kept (grownSet w b 0 _) (.inr (Lib.ownBlock_neF hown hb (by decide)))⟩, by simpa using h2, Apart.set w 0 _⟩
  · refine (copyCheck_used b v w hb).mono ?_
    rintro e w' ⟨rfl, rfl⟩
    exact ⟨rfl, ⟨v, hb, hown⟩, h2, Apart.refl _ _ _⟩
set_option maxHeartbeats 1000000 in
set_option maxRecDepth 100000 in
theorem writeByte (b B1 : Nat) (bs : List Value) (c : Int) (w : World) (h : Bld b B1 bs w) (hlen : bs.length + 1 ≤ 100000000) :
    Calls Tryz.prog 93 #[.pointer (some ⟨b, 0, none⟩), .int .u8 c] w fun e w' => e = .returned .nilIface ∧ Bld b B1 (bs ++ [.int .u8 c]) w' ∧ Apart b B1 w w' := by
  have hcc := Lib.hid (copyCheck b B1 bs w h)
  have hb1 := h.1
  clear h
  obtain ⟨i0, hi, hz0, hz1, hz2⟩ := info_parts Tryz.Builder_Extra_169.infoByte
  go_enter Tryz.func93, Tryz.ntmps93
  go_wp2_with (go_at_call 92; refine hcc.out.mono ?_)
  rintro e w1 ⟨rfl, ⟨v, hbk, hown⟩, hB, hA⟩
  have c0 : w1.cell? ⟨b, 0, none⟩ = some (.pointer (some ⟨b, 0, none⟩)) := by rw [Lib.cell_of_heap hbk]; rfl
  have c1 : w1.cell? ⟨b, 1, none⟩ = some v := by rw [Lib.cell_of_heap hbk]; rfl
  go_wp2_with (at_builtin; refine wpList_append_ownF _ rfl _ _ 120 rfl B1 5 i0 (.int .u8 0) 1 1 Tryz.underlying120 hi hz0 hz1 hz2 rfl (by decide) _ _ _ rfl (hown.alloc _) ⟨w1.heap.size, 0, none⟩ 1 1 [.int .u8 c] rfl rfl ?c1 ?c2 ?c3 ?c4 ?c5 ?_)
  case c1 =>
    intro j u hj
    match j, hj with
    | 0, hj => simp at hj; subst hj; simp [Addr.add]
  case c2 => intro u hu; simp at hu; subst hu; rfl
  case c3 => unfold maxLen; omega
  case c4 => omega
  case c5 => simp; omega
  intro v' w2 hown' hgrow _
  have hlt : b < w1.heap.size := by omega
  have hne : v.ownBlock ≠ some b := Lib.ownBlock_neF hown hbk (by decide)
  have hb2 : w2.heap[b]? = some (.cells #[.pointer (some ⟨b, 0, none⟩), v] 125 (0, 0)) := by
    rw [hgrow.block b (by simp; omega) (fun e => hne e.symm), Lib.alloc_old w1 _ b hlt]
    exact hbk
  have d0 : w2.cell? ⟨b, 0, none⟩ = some (.pointer (some ⟨b, 0, none⟩)) := by rw [Lib.cell_of_heap hb2]; rfl
  have d1 : w2.cell? ⟨b, 1, none⟩ = some v := by rw [Lib.cell_of_heap hb2]; rfl
  have f1 : w2.frozen? ⟨b, 1, none⟩ = false := Lib.frozen_of_heap hb2 1
  obtain ⟨g, cap, rfl⟩ : ∃ g cap, v' = .slice (some ⟨g, 0, none⟩) (bs.length + 1) cap := by
    rcases hown'.2 with ⟨_, h0⟩ | ⟨g, cap, cur, fz, hv, _⟩
    · omega
    · exact ⟨g, cap, hv⟩
  have hA2 : Apart b B1 w1 w2 := (Apart.alloc w1 _ hB).trans (Apart.grown hgrow (by simp; omega) (fun k hk => (hown.lt k hk).1))
  have hs2 := hA2.size
  go_wp2
  go_ret
  refine ⟨rfl, ⟨hb1, by simp; omega, _, _, .inr rfl, heap_set1 hb2, ?_⟩, (hA.trans hA2).trans (Apart.set w2 1 _)⟩
  have := hown'.kept (grownSet w2 b 1 (.slice (some ⟨g, 0, none⟩) (bs.length + 1) cap)) (.inr (Lib.ownBlock_neF hown' hb2 (by decide)))
  simpa using this
set_option maxHeartbeats 1000000 in
set_option maxRecDepth 100000 in
theorem writeString (b B1 : Nat) (bs : List Value) (s : ByteArray) (w : World) (h : Bld b B1 bs w) (hlen : bs.length + s.size ≤ 100000000) :
    Calls Tryz.prog 68 #[.pointer (some ⟨b, 0, none⟩), .string s] w fun e w' => e = .returned (.tuple #[.int .i64 s.size, .nilIface]) ∧ Bld b B1 (bs ++ Lib.strCells s) w' ∧ Apart b B1 w w' := by
  have hcc := Lib.hid (copyCheck b B1 bs w h)
  have hb1 := h.1
  clear h
  obtain ⟨i0, hi, hz0, hz1, hz2⟩ := info_parts Tryz.Builder_Extra_169.infoByte
  go_enter Tryz.func68, Tryz.ntmps68
  go_wp2_with (go_at_call 92; refine hcc.out.mono ?_)
  rintro e w1 ⟨rfl, ⟨v, hbk, hown⟩, hB, hA⟩
  have c0 : w1.cell? ⟨b, 0, none⟩ = some (.pointer (some ⟨b, 0, none⟩)) := by rw [Lib.cell_of_heap hbk]; rfl
  have c1 : w1.cell? ⟨b, 1, none⟩ = some v := by rw [Lib.cell_of_heap hbk]; rfl
  go_wp2_with (at_builtin; refine Lib.wpList_append_own_stringF _ rfl _ _ 120 9 rfl B1 5 i0 Tryz.underlying120 Tryz.underlying9 hi hz0 hz1 hz2 _ _ _ rfl hown s rfl ?c3 ?c4 ?c5 ?_)
  case c3 => unfold maxLen; omega
  case c4 => omega
  case c5 => omega
  intro v' w2 hown' hgrow _
  have hlt : b < w1.heap.size := by omega
  have hne : v.ownBlock ≠ some b := Lib.ownBlock_neF hown hbk (by decide)
  have hb2 : w2.heap[b]? = some (.cells #[.pointer (some ⟨b, 0, none⟩), v] 125 (0, 0)) := by
    rw [hgrow.block b hlt (fun e => hne e.symm)]
    exact hbk
  have d0 : w2.cell? ⟨b, 0, none⟩ = some (.pointer (some ⟨b, 0, none⟩)) := by rw [Lib.cell_of_heap hb2]; rfl
  have d1 : w2.cell? ⟨b, 1, none⟩ = some v := by rw [Lib.cell_of_heap hb2]; rfl
  have f1 : w2.frozen? ⟨b, 1, none⟩ = false := Lib.frozen_of_heap hb2 1
  obtain ⟨ao, n', cap, hv'⟩ : ∃ ao n' cap, v' = .slice ao n' cap := by
    rcases hown'.2 with ⟨hv, _⟩ | ⟨g, cap, cur, fz, hv, _⟩
    · exact ⟨_, _, _, hv⟩
    · exact ⟨_, _, _, hv⟩
  subst hv'
  have hA2 : Apart b B1 w1 w2 := Apart.grown hgrow hB (fun k hk => (hown.lt k hk).1)
  have hs2 := hA2.size
  go_wp2
  go_ret2
  refine ⟨rfl, ⟨hb1, by simp; omega, _, _, .inr rfl, heap_set1 hb2, ?_⟩, (hA.trans hA2).trans (Apart.set w2 1 _)⟩
  have := hown'.kept (grownSet w2 b 1 (.slice ao n' cap)) (.inr (Lib.ownBlock_neF hown' hb2 (by decide)))
  have e : (bs ++ Lib.strCells s).length = bs.length + s.size := by
    rw [List.length_append, Lib.strCells, List.length_map, ← Lib.size_eq]
  rw [e]
  exact this
theorem bstring (b B1 : Nat) (l : List UInt8) (w : World) (h : Bld b B1 (Lib.byteCells l) w) :
    Calls Tryz.prog 72 #[.pointer (some ⟨b, 0, none⟩)] w fun e w' => e = .returned (.string ⟨l.toArray⟩) ∧ Below b w w' := by
  obtain ⟨h1, h2, p, v, hp, hb, hown⟩ := h
  have hlow : w.ownsRowF b 5 1 v (Lib.byteCells l).length (Lib.byteCells l) := by
    refine ⟨hown.1, ?_⟩
    rcases hown.2 with hz | ⟨g, cap, cur, fz, hv, hg, hr⟩
    · exact .inl hz
    · exact .inr ⟨g, cap, cur, fz, hv, by omega, hr⟩
  have hat : Lib.BuilderAtF 125 5 b b p (Lib.byteCells l) w := ⟨Nat.le_refl _, v, hb, hlow, Lib.ownBlock_neF hown hb (by decide)⟩
  refine (Tryz.Builder_String_any_f b b l w ?_ (by omega)).mono (fun e w' h => ⟨h.1, h.2.2⟩)
  rcases hp with rfl | rfl
  · exact .inl hat
  · exact .inr hat
end Go.Proofs.YtghbaehbgefpaaaGreatDoor.Hand
namespace Go.Proofs.YtghbaehbgefpaaaGreatDoor.Fr
open Go.RowKit Go.Proofs.YtghbaehbgefpaaaGreatDoor.F Go.Proofs.YtghbaehbgefpaaaGreatDoorW.PrintWords
def plainI (c : Int) : Bool := decide (65 ≤ c ∧ c ≤ 90) || decide (97 ≤ c ∧ c ≤ 122) || decide (48 ≤ c ∧ c ≤ 57) || decide (c = 95 ∨ c = 45 ∨ c = 46 ∨ c = 47 ∨ c = 43)
theorem plain_tail (c : Int) : (if c = 95 then some true else (if c = 45 then some true else (if c = 46 then some true else (if c = 47 then some true else some (c == 43))))) = some (decide (c = 95 ∨ c = 45 ∨ c = 46 ∨ c = 47 ∨ c = 43)) := by
  by_cases h1 : c = 95
  · simp [h1]
  by_cases h2 : c = 45
  · simp [h2]
  by_cases h3 : c = 46
  · simp [h3]
  by_cases h4 : c = 47
  · simp [h4]
  by_cases h5 : c = 43
  · simp [h5]
  have : (c == 43) = false := by simpa using h5
  simp [h1, h2, h3, h4, h5, this]
theorem plain_f (c : Int) : text_plain.f 5 c = some (plainI c) := by
  unfold text_plain.f plainI
  simp only [text_plain.j0, text_plain.j1, plain_tail]
  generalize decide (c = 95 ∨ c = 45 ∨ c = 46 ∨ c = 47 ∨ c = 43) = t
  by_cases h1 : 65 ≤ c <;> by_cases h2 : c ≤ 90 <;> by_cases h3 : 97 ≤ c <;> by_cases h4 : c ≤ 122 <;> by_cases h5 : 48 ≤ c <;> by_cases h6 : c ≤ 57 <;> simp [h1, h2, h3, h4, h5, h6]
theorem plain_walk (c : Int) (w : World) : Calls Tryz.prog 66 #[.int .u8 c] w fun e w' => e = .returned (.bool (plainI c)) ∧ Drawn0 w w' := text_plain.calls 5 c _ w (plain_f c)
def slashB : ByteArray := ⟨#[47]⟩
def partsB (s : ByteArray) : List ByteArray := Lib.splitB slashB 0 (Lib.countB s slashB) s
def badPart (p : ByteArray) : Bool := p.toList.isEmpty || p.toList == [46] || p.toList == [46, 46]
def pathV (s : ByteArray) : Bool := (s.data.toList.all fun c => plainI c.toNat) && (partsB s).all (fun p => !badPart p) && decide ((s.size : Int) ≤ 100) && decide (((partsB s).length : Int) ≤ 8)
set_option maxHeartbeats 2000000 in
set_option maxRecDepth 100000 in
theorem path_walk (s : ByteArray) (hs : s.size ≤ 100000) (m : Int) (w : World) (hw : 0 < w.heap.size) (hm : w.cell? ⟨0, 0, none⟩ = some (.int .i64 m)) : Calls Tryz.prog 42 #[.string s] w fun e w' => e = .returned (.bool (pathV s)) ∧ Below w.heap.size w w' := by
  have hcv := fun (W : World) => Lib.run_convert_string_bytes (P := Tryz.prog) W 9 120 5 s Tryz.underlying9 Tryz.underlying120 Tryz.underlying5
  have HM := Lib.hid hm
  clear hm
  go_enter Tryz.func42, Tryz.ntmps42
  go_wp2
  clear hcv
  obtain ⟨w0, hw0⟩ : ∃ w0, Lib.bytesWorld w 5 s = w0 := ⟨_, rfl⟩
  have hs0 : w0.heap.size = w.heap.size + 1 := by rw [← hw0, Lib.bytesWorld_size]
  have hcell : Hid (∀ j, j < s.size → w0.cell? ⟨w.heap.size, j, none⟩ = some (.int .u8 (s.data.toList.getD j 0).toNat)) := by
    intro j hj
    rw [← hw0]
    exact Lib.bytesWorld_cell w 5 s j hj
  have hB0 : Hid (Below w.heap.size w w0) := by
    rw [Hid, ← hw0]
    exact ⟨rfl, rfl, rfl, by rw [Lib.bytesWorld_size]; omega, fun k hk => Lib.bytesWorld_at_old _ 5 s k hk⟩
  have hm0 : Hid (w0.cell? ⟨0, 0, none⟩ = some (.int .i64 m)) := (hB0.out.cell (p := ⟨0, 0, none⟩) hw).trans HM.out
  rw [hw0]
  clear hw0
  obtain ⟨r, hr⟩ : ∃ r, Hid (pathV s = r) := ⟨_, Lib.hid rfl⟩
  go_loopw [11] (fun i wr => ∃ (k nd : Nat), k ≤ s.size ∧ i = .int .i64 k ∧ wr = w0.drewN nd ∧ Hid ((s.data.toList.take k).all (fun c => plainI c.toNat) = true))
    (fun i _ => s.size - (intOf i).toNat)
  case atStart => exact ⟨0, 0, Nat.zero_le _, rfl, rfl, rfl⟩
  case round =>
    obtain ⟨k, nd, hk, rfl, rfl, hall⟩ := hrel
    by_cases hlt : k < s.size
    · have hc : (w0.drewN nd).cell? ⟨w.heap.size, k, none⟩ = some (.int .u8 (s.data.toList.getD k 0).toNat) := hcell.out k hlt
      have hk' : k < s.data.toList.length := by simpa using hlt
      obtain ⟨c, hcc⟩ : ∃ c, Hid (s.data.toList.getD k 0 = c) := ⟨_, Lib.hid rfl⟩
      rw [hcc.out] at hc
      have hstep : Hid ((s.data.toList.take (k + 1)).all (fun c => plainI c.toNat) = ((s.data.toList.take k).all (fun c => plainI c.toNat) && plainI c.toNat)) := by
        rw [Hid, List.take_succ_eq_append_getElem hk', List.all_append, ← hcc.out]
        simp [List.getD_eq_getElem?_getD, List.getElem?_eq_getElem hk']
      have hcl := UInt8.toNat_lt c
      have hmem : Hid (c ∈ s.data.toList) := by
        rw [Hid, ← hcc.out, List.getD_eq_getElem?_getD, List.getElem?_eq_getElem hk']
        exact List.getElem_mem hk'
      have hcN : Hid (c.toNat = c.toNat) := rfl
      cases hp : plainI (c.toNat : Int) with
      | true =>
        have hp' := Lib.hid hp
        generalize hn : c.toNat = n at hc hcl hp
        go_wp2_with (go_at_call 66; refine (plain_walk _ _).mono ?_; rintro e w1 ⟨rfl, ⟨n1, rfl⟩⟩; rw [hp])
        go_roundw
        case rel => exact ⟨k + 1, nd + n1, by omega, by go_num, rfl, by rw [Hid, hstep.out, hall.out, hp'.out]; rfl⟩
        case measure => simp [intOf]; omega
      | false =>
        have hfin : Hid (r = false) := by
          rw [Hid, ← hr.out]
          unfold pathV
          have : s.data.toList.all (fun c => plainI c.toNat) = false := by
            rw [List.all_eq_false]
            exact ⟨c, hmem.out, by rw [hp]; simp⟩
          rw [this]
          rfl
        generalize hn : c.toNat = n at hc hcl hp
        go_wp2_with (go_at_call 66; refine (plain_walk _ _).mono ?_; rintro e w1 ⟨rfl, ⟨n1, rfl⟩⟩; rw [hp])
        go_ret
        exact ⟨by rw [hr.out, hfin.out]; rfl, hB0.out.trans ⟨rfl, rfl, rfl, Nat.le_refl _, fun _ _ => rfl⟩⟩
    · have hkk : k = s.size := by omega
      have hall' : Hid (s.data.toList.all (fun c => plainI c.toNat) = true) := by
        have := hall.out
        rw [hkk, List.take_of_length_le (by rw [← Lib.size_eq]; exact Nat.le_refl _)] at this
        exact this
      clear hall
      have HS := Lib.hid (Tryz.strings_Split s slashB m (w0.drewN nd) (by omega) hm0.out (by decide))
      have hB1 : Hid (Below w.heap.size w (w0.drewN nd)) := hB0.out.trans ⟨rfl, rfl, rfl, Nat.le_refl _, fun _ _ => rfl⟩
      have hpl : (partsB s).length = Lib.countB s slashB + 1 := Lib.splitB_all slashB (by decide) 0 _ s rfl
      have hcle := Lib.countB_le slashB (by decide) s.size s (Nat.le_refl _)
      generalize hcn : Lib.countB s slashB = cn at HS hpl hcle
      have hps : Lib.splitB slashB 0 cn s = partsB s := by rw [← hcn]; rfl
      rw [hps] at HS
      have HR := hr
      have hsz : (w0.drewN nd).heap.size = w.heap.size + 1 := hs0
      obtain ⟨W, hW⟩ : ∃ W, (w0.drewN nd).alloc (.cells ((partsB s).map Value.string).toArray 9) = W := ⟨_, rfl⟩
      rw [hW] at HS
      have hpc : Hid (∀ j (h : j < (partsB s).length), W.cell? ⟨w.heap.size + 1, j, none⟩ = some (.string (partsB s)[j])) := by
        intro j h
        have hb := World.alloc_heap_new (w0.drewN nd) (.cells ((partsB s).map Value.string).toArray 9)
        rw [hW, hsz] at hb
        rw [Lib.cell_of_heap hb]
        simp [h, hs0]
      have hWb : Hid (Below w.heap.size w W) := by
        rw [Hid, ← hW]
        exact hB1.out.alloc (by rw [hsz]; omega) _
      have hWs : W.heap.size = w.heap.size + 2 := by rw [← hW]; simp [hs0]
      clear hW
      go_wp2_with (go_at_call 67; refine HS.out.mono ?_; rintro e w1 ⟨rfl, rfl⟩)
      have hpl' : ((partsB s).length : Int) = (cn : Int) + 1 := by omega
      go_loopw [23] (fun i wr => ∃ (j : Nat), j ≤ cn + 1 ∧ i = .int .i64 j ∧ wr = w1 ∧ Hid (((partsB s).take j).all (fun p => !badPart p) = true))
        (fun i _ => cn + 1 - (intOf i).toNat)
      case atStart => exact ⟨0, Nat.zero_le _, rfl, rfl, rfl⟩
      case round =>
        obtain ⟨j, hj, rfl, rfl, hgood⟩ := hrel
        by_cases hlj : j < cn + 1
        · have hjl : j < (partsB s).length := by omega
          have hc := hpc.out j hjl
          have hstep : Hid (((partsB s).take (j + 1)).all (fun p => !badPart p) = !badPart (partsB s)[j]) := by
            rw [Hid, List.take_succ_eq_append_getElem hjl, List.all_append, hgood.out]
            simp
          have hmem : Hid ((partsB s)[j] ∈ partsB s) := List.getElem_mem hjl
          generalize (partsB s)[j] = p at hc hstep hmem
          have hfin : Hid (badPart p = true → r = false) := by
            intro hb
            rw [← hr.out]
            unfold pathV
            have : (partsB s).all (fun p => !badPart p) = false := by
              rw [List.all_eq_false]
              exact ⟨p, hmem.out, by rw [hb]; simp⟩
            rw [this]
            simp
          cases h1 : p.toList.isEmpty with
          | true =>
            have hr0 := hfin.out (by unfold badPart; rw [h1]; rfl)
            subst hr0
            go_wp2
            go_ret
            exact ⟨by rw [hr.out]; rfl, hWb.out⟩
          | false =>
            cases h2 : (p.toList == [46]) with
            | true =>
              have hr0 := hfin.out (by unfold badPart; rw [h1, h2]; rfl)
              subst hr0
              go_wp2
              go_ret
              exact ⟨by rw [hr.out]; rfl, hWb.out⟩
            | false =>
              cases h3 : (p.toList == [46, 46]) with
              | true =>
                have hr0 := hfin.out (by unfold badPart; rw [h1, h2, h3]; rfl)
                subst hr0
                go_wp2
                go_ret
                exact ⟨by rw [hr.out]; rfl, hWb.out⟩
              | false =>
                have hst2 : Hid (((partsB s).take (j + 1)).all (fun p => !badPart p) = true) := by
                  show _ = true
                  rw [hstep.out]
                  unfold badPart
                  rw [h1, h2, h3]
                  rfl
                go_wp2
                go_roundw
                case rel => exact ⟨j + 1, by omega, by go_num, by first | trivial | rfl, hst2⟩
                case measure => simp [intOf]; omega
        · have hall2 : Hid ((partsB s).all (fun p => !badPart p) = true) := by
            have := hgood.out
            rw [List.take_of_length_le (by omega)] at this
            exact this
          by_cases h100 : (s.size : Int) ≤ 100
          · have hfin : Hid (pathV s = decide ((cn : Int) + 1 ≤ 8)) := by
              show pathV s = _
              unfold pathV
              rw [hall'.out, hall2.out, hpl', decide_eq_true h100]
              rfl
            go_wp2
            go_ret
            exact ⟨by rw [hfin.out]; rfl, hWb.out⟩
          · have hfin : Hid (pathV s = false) := by
              show pathV s = _
              unfold pathV
              rw [decide_eq_false h100]
              simp
            go_wp2
            go_ret
            exact ⟨by rw [hfin.out]; rfl, hWb.out⟩
end Go.Proofs.YtghbaehbgefpaaaGreatDoor.Fr
namespace Go.Proofs.YtghbaehbgefpaaaGreatDoor.Hand
open Go.RowKit Go.Proofs.YtghbaehbgefpaaaGreatDoorW.PrintWords Go.Proofs.YtghbaehbgefpaaaGreatDoor.Fr
def hexD (n : Nat) : UInt8 := if n < 10 then UInt8.ofNat (48 + n) else UInt8.ofNat (55 + n)
def quoteB (c : UInt8) : List UInt8 := if plainI c.toNat = true then [c] else [37, hexD (c.toNat / 16), hexD (c.toNat % 16)]
def quoteV (s : ByteArray) : ByteArray := if s.size = 0 then ⟨#[37]⟩ else ⟨(s.data.toList.flatMap quoteB).toArray⟩
theorem apart_drewN (b B1 : Nat) (w : World) (n : Nat) : Apart b B1 w (w.drewN n) := ⟨rfl, rfl, rfl, Nat.le_refl _, fun _ _ _ => rfl⟩
theorem quote_ne {s : ByteArray} (e : ¬ s = ByteArray.empty) : quoteV s = ⟨(s.data.toList.flatMap quoteB).toArray⟩ := by
  unfold quoteV
  rw [if_neg]
  intro h
  apply e
  have h1 : s.data.toList = [] := List.eq_nil_of_length_eq_zero (by rw [← Lib.size_eq]; exact h)
  cases s with
  | mk d => rw [show d = #[] from Array.ext' h1]; rfl
theorem lit_at (m : Nat) (h : m < 16) : ((⟨#[48, 49, 50, 51, 52, 53, 54, 55, 56, 57, 65, 66, 67, 68, 69, 70]⟩ : ByteArray)[m]'(by show m < 16; exact h)) = hexD m := by
  have : ∀ m : Fin 16, ((⟨#[48, 49, 50, 51, 52, 53, 54, 55, 56, 57, 65, 66, 67, 68, 69, 70]⟩ : ByteArray)[m.1]'(by show m.1 < 16; exact m.2)) = hexD m.1 := by decide
  exact this ⟨m, h⟩
theorem quoteB_len (c : UInt8) : (quoteB c).length ≤ 3 := by
  unfold quoteB
  split <;> simp
theorem quote_len (l : List UInt8) : (l.flatMap quoteB).length ≤ 3 * l.length := by
  induction l with
  | nil => simp
  | cons c t ih =>
    have := quoteB_len c
    rw [List.flatMap_cons, List.length_append, List.length_cons]
    omega
set_option maxHeartbeats 2000000 in
set_option maxRecDepth 100000 in
theorem quote_walk (s : ByteArray) (hs : s.size ≤ 100000) (w : World) : Calls Tryz.prog 69 #[.string s] w fun e w' => e = .returned (.string (quoteV s)) ∧ Below w.heap.size w w' := by
  by_cases e : s = ByteArray.empty
  · subst e
    go_enter Tryz.func69, Tryz.ntmps69
    go_wp2
    go_ret
    exact ⟨rfl, Below.refl _ _⟩
  · have hemp : s.toList.isEmpty = false := by
      rw [Lib.toList_data]
      cases h : s.data.toList with
      | nil => exact absurd (by cases s with | mk d => rw [show d = #[] from Array.ext' h]; rfl) e
      | cons => rfl
    have hcv := fun (W : World) => Lib.run_convert_string_bytes (P := Tryz.prog) W 9 120 5 s Tryz.underlying9 Tryz.underlying120 Tryz.underlying5
    go_enter Tryz.func69, Tryz.ntmps69
    go_wp2
    clear hcv
    obtain ⟨w0, hw0⟩ : ∃ w0, Lib.bytesWorld (w.alloc (Obj.cells #[Value.pointer none, Value.slice none 0 0] 125)) 5 s = w0 := ⟨_, rfl⟩
    have hs0 : w0.heap.size = w.heap.size + 2 := by rw [← hw0, Lib.bytesWorld_size]; simp
    have hcell : Hid (∀ j, j < s.size → w0.cell? ⟨w.heap.size + 1, j, none⟩ = some (.int .u8 (s.data.toList.getD j 0).toNat)) := by
      intro j hj
      rw [← hw0]
      have := Lib.bytesWorld_cell (w.alloc (Obj.cells #[Value.pointer none, Value.slice none 0 0] 125)) 5 s j hj
      simpa using this
    have hB0 : Hid (Below w.heap.size w w0) := by
      rw [Hid, ← hw0]
      exact ((Below.refl _ _).alloc (Nat.le_refl _) _).trans ⟨rfl, rfl, rfl, by rw [Lib.bytesWorld_size]; omega, fun k hk => Lib.bytesWorld_at_old _ 5 s k (by simp; omega)⟩
    have hbl0 : Hid (Bld w.heap.size (w.heap.size + 2) [] w0) := by
      refine ⟨by omega, by rw [hs0]; omega, _, _, .inl rfl, ?_, World.ownsRowF_nil _ _ _ _⟩
      rw [← hw0, Lib.bytesWorld_at_old _ _ _ _ (by simp)]
      exact World.alloc_heap_new w _
    rw [hw0]
    clear hw0
    go_loopw [11] (fun i wr => ∃ (k : Nat), k ≤ s.size ∧ i = .int .i64 k ∧ Hid (Bld w.heap.size (w.heap.size + 2) (Lib.byteCells ((s.data.toList.take k).flatMap quoteB)) wr) ∧ Hid (Apart w.heap.size (w.heap.size + 2) w0 wr))
      (fun i _ => s.size - (intOf i).toNat)
    case atStart => exact ⟨0, Nat.zero_le _, rfl, hbl0, Apart.refl _ _ _⟩
    case round =>
      obtain ⟨k, hk, rfl, hbl, hA⟩ := hrel
      by_cases hlt : k < s.size
      · have hc : wr.cell? ⟨w.heap.size + 1, k, none⟩ = some (.int .u8 (s.data.toList.getD k 0).toNat) := (hA.out.cell (p := ⟨w.heap.size + 1, k, none⟩) (by show w.heap.size + 1 < _; omega) (by show w.heap.size + 1 ≠ _; omega)).trans (hcell.out k hlt)
        have hk' : k < s.data.toList.length := by simpa using hlt
        obtain ⟨c, hcc⟩ : ∃ c, Hid (s.data.toList.getD k 0 = c) := ⟨_, Lib.hid rfl⟩
        rw [hcc.out] at hc
        have hstep : Hid ((s.data.toList.take (k + 1)).flatMap quoteB = (s.data.toList.take k).flatMap quoteB ++ quoteB c) := by
          rw [Hid, List.take_succ_eq_append_getElem hk', List.flatMap_append, ← hcc.out]
          simp [List.getD_eq_getElem?_getD, List.getElem?_eq_getElem hk']
        have hcl := UInt8.toNat_lt c
        generalize hn : c.toNat = n at hc hcl
        cases hp : plainI (n : Int) with
        | true =>
          have hq : Hid (quoteB c = [c]) := by
            rw [Hid, quoteB, hn, hp]
            rfl
          have hlen : Hid ((Lib.byteCells ((s.data.toList.take k).flatMap quoteB)).length + 1 ≤ 100000000) := by
            have h1 := quote_len (s.data.toList.take k)
            have h2 : (s.data.toList.take k).length ≤ k := by rw [List.length_take]; exact Nat.min_le_left _ _
            rw [Hid, Lib.byteCells_length]
            omega
          go_wp2_with (first | (go_at_call 66; refine (plain_walk _ _).mono ?_; rintro e w1 ⟨rfl, ⟨nd, rfl⟩⟩; rw [hp]; have HW := Lib.hid (writeByte w.heap.size (w.heap.size + 2) _ (n : Int) (wr.drewN nd) hbl.out hlen.out)) | (go_at_call 93; refine HW.out.mono ?_; rintro e w2 ⟨rfl, hb2, hA2⟩; have HB2 := Lib.hid hb2; have HA2 := Lib.hid hA2; clear hb2 hA2))
          go_roundw
          case rel =>
            refine ⟨k + 1, by omega, by go_num, ?_, ?_⟩
            · rw [Hid, hstep.out, hq.out, Lib.byteCells_append]
              have := HB2.out
              rw [← hn] at this
              exact this
            · exact (hA.out.trans (apart_drewN _ _ wr nd)).trans HA2.out
          case measure => simp [intOf]; omega
        | false =>
          have hq : Hid (quoteB c = [37, hexD (n / 16), hexD (n % 16)]) := by
            rw [Hid, quoteB, hn, hp]
            rfl
          have hlen : Hid ((Lib.byteCells ((s.data.toList.take k).flatMap quoteB)).length + 3 ≤ 100000000) := by
            have h1 := quote_len (s.data.toList.take k)
            have h2 : (s.data.toList.take k).length ≤ k := by rw [List.length_take]; exact Nat.min_le_left _ _
            rw [Hid, Lib.byteCells_length]
            omega
          generalize hbs : Lib.byteCells ((s.data.toList.take k).flatMap quoteB) = bs at hbl hlen
          have HA0 := hA
          go_wp2_with (first | (go_at_call 66; refine (plain_walk _ _).mono ?_; rintro e w1 ⟨rfl, ⟨nd, rfl⟩⟩; rw [hp]; have HC : Hid (Bld w.heap.size (w.heap.size + 2) bs (wr.drewN nd)) := hbl; have HT : Hid (Apart w.heap.size (w.heap.size + 2) w0 (wr.drewN nd)) := hA.out.trans (apart_drewN _ _ wr nd)) | (go_at_call 93; refine (writeByte w.heap.size (w.heap.size + 2) _ _ _ HC.out (by have := hlen.out; (try simp only [List.length_append, List.length_singleton]); omega)).mono ?_; rintro e w2 ⟨rfl, hb2, hA2⟩; have HC' := Lib.hid hb2; have HT' := Lib.hid (HT.out.trans hA2); clear hb2 hA2 HC HT; have HC := HC'; have HT := HT'; clear HC' HT'))
          go_roundw
          case rel =>
            refine ⟨k + 1, by omega, by go_num, ?_, HT⟩
            rw [Hid, hstep.out, hq.out, Lib.byteCells_append, hbs]
            have h1 := lit_at (n / 16) (by omega)
            have h2 := lit_at (n % 16) (by omega)
            have := HC.out
            rw [h1, h2] at this
            simpa [Lib.byteCells] using this
          case measure => simp [intOf]; omega
      · have HS := Lib.hid (bstring w.heap.size (w.heap.size + 2) _ wr hbl.out)
        have hkk : k = s.size := by omega
        go_wp2_with (go_at_call 72; refine HS.out.mono ?_; rintro e w2 ⟨rfl, hb2⟩)
        go_ret
        refine ⟨?_, hB0.out.trans ((hA.out.below (by omega)).trans hb2)⟩
        rw [quote_ne e]
        have ht : s.data.toList.take s.size = s.data.toList := List.take_of_length_le (by rw [← Lib.size_eq]; exact Nat.le_refl _)
        show _ = Ending.returned (.string ⟨(s.data.toList.flatMap quoteB).toArray⟩)
        have hx : (⟨(s.data.toList.flatMap quoteB).toArray⟩ : ByteArray) = ⟨((s.data.toList.take s.size).flatMap quoteB).toArray⟩ := by rw [ht]
        rw [hx]
        rfl
end Go.Proofs.YtghbaehbgefpaaaGreatDoor.Hand
namespace Go.Proofs.YtghbaehbgefpaaaGreatDoor.Hand
open Go.Sort Go.RowKit Go.Proofs.YtghbaehbgefpaaaGreatDoorW.PrintWords
theorem cell_lt' {w : World} {p : Addr} {v : Value} (h : w.cell? p = some v) : p.block < w.heap.size := World.block_lt_of_cell? w _ h
theorem ba_ext {a b : ByteArray} (h : a.data.toList = b.data.toList) : a = b := by
  cases a with
  | mk x =>
    cases b with
    | mk y => rw [show x = y from Array.ext' h]
theorem ext_take (v : ByteArray) (k : Nat) : (⟨(v.data.toList.take k).toArray⟩ : ByteArray) = v.extract 0 k := by
  apply ba_ext
  simp [ByteArray.data_extract]
theorem ext_drop (v : ByteArray) (k : Nat) : (⟨(v.data.toList.drop k).toArray⟩ : ByteArray) = v.extract k v.size := by
  apply ba_ext
  rw [ByteArray.data_extract, Array.toList_extract, List.extract_eq_take_drop, List.take_of_length_le]
  rw [List.length_drop, ← Lib.size_eq]
  exact Nat.le_refl _
theorem ba_ne {u : ByteArray} (e : u ≠ ByteArray.empty) : u.data.toList ≠ [] := by
  intro h
  apply e
  cases u with
  | mk d =>
    have : d = #[] := Array.ext' h
    rw [this]
    rfl
theorem ba_isEmpty {u : ByteArray} (e : u ≠ ByteArray.empty) : u.toList.isEmpty = false := by
  rw [ByteArray.toList_eq]
  cases h : u.data.toList with
  | nil => exact absurd h (ba_ne e)
  | cons => rfl
theorem grown_of_below {W W' : World} (h : Below W.heap.size W W') : W.grownBy W' none := ⟨h.os, h.tape, h.output, h.size, fun k hk _ => h.block k hk⟩
theorem belowD (w : World) (n : Nat) : Below w.heap.size w (w.drewN n) := ⟨rfl, rfl, rfl, Nat.le_refl _, fun _ _ => rfl⟩
theorem bytes_below (w : World) (s : ByteArray) : Below w.heap.size w (Lib.bytesWorld w 5 s) := ⟨rfl, rfl, rfl, by rw [Lib.bytesWorld_size]; omega, fun k hk => Lib.bytesWorld_at_old w 5 s k hk⟩
set_option maxHeartbeats 4000000 in
set_option maxRecDepth 100000 in
theorem parse16_ok (s : ByteArray) (h2 : s.size = 2) (n : Nat) (h : hexG 0 s.data.toList = some n) (w : World) :
    Calls Tryz.prog 161 #[.string s, .int .i64 16, .int .i64 8] w fun e w' => e = .returned (.tuple #[.int .u64 n, .nilIface]) ∧ Below w.heap.size w w' := by
  have hI := parse16_in s h2 w
  rw [h] at hI
  have hI : Hid (Calls Tryz.prog 170 #[.string s, .int .i64 16, .int .i64 8] w fun e w' => e = .returned (.tuple #[.int .u64 n, .nilIface]) ∧ w' = Lib.bytesWorld w 5 s) := hI
  clear h h2
  go_enter Tryz.func161, Tryz.ntmps161
  go_wp2_with (go_at_call 170; refine hI.out.mono ?_; rintro e W1 ⟨rfl, hW⟩)
  go_wp2
  go_ret2
  exact ⟨rfl, hW ▸ bytes_below w s⟩
set_option maxHeartbeats 4000000 in
set_option maxRecDepth 100000 in
theorem parse16_bad (s : ByteArray) (h2 : s.size = 2) (h : hexG 0 s.data.toList = none) (tp : TypeId) (pv : Value) (w : World) (hv : w.cell? ⟨6, 0, none⟩ = some (.iface tp pv)) :
    Calls Tryz.prog 161 #[.string s, .int .i64 16, .int .i64 8] w fun e w' => ∃ N : Nat, e = .returned (.tuple #[.int .u64 0, .iface 223 (.pointer (some ⟨N, 0, none⟩))]) ∧ Below w.heap.size w w' := by
  have hI := parse16_in s h2 w
  rw [h] at hI
  have hI : Hid (Calls Tryz.prog 170 #[.string s, .int .i64 16, .int .i64 8] w fun e w' => e = .returned (.tuple #[.int .u64 0, .iface 221 (.int .i64 2)]) ∧ w' = Lib.bytesWorld w 5 s) := hI
  have hs : s.size ≤ 281474976710656 := by omega
  have hG : (6 : Nat) < w.heap.size := cell_lt' hv
  have hb1 := bytes_below w s
  have hv1 : (Lib.bytesWorld w 5 s).cell? ⟨6, 0, none⟩ = some (.iface tp pv) := (hb1.cell (p := ⟨6, 0, none⟩) hG).trans hv
  clear h h2 hv
  have hv1 := Lib.hid hv1
  have hb1 := Lib.hid hb1
  go_enter Tryz.func161, Tryz.ntmps161
  go_wp2_with (go_at_call 170; refine hI.out.mono ?_)
  rintro e W1 ⟨rfl, hW⟩
  have hv2 : W1.cell? ⟨6, 0, none⟩ = some (.iface tp pv) := by rw [hW]; exact hv1.out
  have hb2 : Below w.heap.size w W1 := by rw [hW]; exact hb1.out
  clear hW
  go_wp2_with (go_at_call 171; refine (Tryz.strconv_toError_syntax ⟨#[80, 97, 114, 115, 101, 85, 105, 110, 116]⟩ s 16 8 (.iface tp pv) _ hs hv2 (.inr ⟨_, _, rfl⟩)).mono ?_; rintro e W2 ⟨N, rfl, h1, h2, h3⟩)
  go_wp2
  go_ret2
  exact ⟨N, rfl, hb2.trans (h3.mono hb2.size)⟩
end Go.Proofs.YtghbaehbgefpaaaGreatDoor.Hand
namespace Go.Proofs.YtghbaehbgefpaaaGreatDoor.Hand
open Go.RowKit
theorem index_one (c : UInt8) : ∀ l : List UInt8, (Lib.index l [c] = -1 ∧ c ∉ l) ∨ ∃ j : Nat, Lib.index l [c] = j ∧ j < l.length ∧ c ∉ l.take j ∧ l = l.take j ++ c :: l.drop (j + 1) := by
  intro l
  induction l with
  | nil => exact .inl ⟨by simp [Lib.index], by simp⟩
  | cons b t ih =>
    by_cases h : b = c
    · subst h
      exact .inr ⟨0, by rw [Lib.index]; simp [List.isPrefixOf], by simp, by simp, by simp⟩
    · have hp : ([c] : List UInt8).isPrefixOf (b :: t) = false := by simp [List.isPrefixOf, Ne.symm h]
      have hix : Lib.index (b :: t) [c] = if Lib.index t [c] == -1 then -1 else Lib.index t [c] + 1 := by rw [Lib.index, hp]; simp
      rcases ih with ⟨h1, h2⟩ | ⟨j, h1, h2, h3, h4⟩
      · exact .inl ⟨by rw [hix, h1]; rfl, by simp [h2, Ne.symm h]⟩
      · refine .inr ⟨j + 1, ?_, by simp; omega, ?_, ?_⟩
        · rw [hix, h1, if_neg (by simp)]
          omega
        · rw [List.take_succ_cons]
          simp [h3, Ne.symm h]
        · rw [List.take_succ_cons, List.drop_succ_cons, List.cons_append, ← h4]
theorem cut_one (c : UInt8) (l : List UInt8) : c ∉ (Lib.cut l [c]).1 ∧ (((Lib.cut l [c]).2.2 = true ∧ l = (Lib.cut l [c]).1 ++ c :: (Lib.cut l [c]).2.1) ∨ ((Lib.cut l [c]).2.2 = false ∧ l = (Lib.cut l [c]).1)) := by
  rcases index_one c l with ⟨h1, h2⟩ | ⟨j, h1, h2, h3, h4⟩
  · unfold Lib.cut
    rw [if_neg (by omega)]
    exact ⟨h2, .inr ⟨rfl, rfl⟩⟩
  · unfold Lib.cut
    rw [if_pos (by omega), h1]
    exact ⟨h3, .inl ⟨rfl, h4⟩⟩
def decG : List UInt8 → Option (List UInt8)
  | [] => some []
  | c :: t => if c = 37 then
      match t with
      | x :: y :: r => match hexG 0 [x, y] with
        | some v => (decG r).map (UInt8.ofNat v :: ·)
        | none => none
      | _ => none
    else (decG t).map (c :: ·)
termination_by l => l.length
decreasing_by all_goals simp <;> omega
theorem decG_nil : decG [] = some [] := by rw [decG.eq_def]
theorem decG_plain (c : UInt8) (t : List UInt8) (h : c ≠ 37) : decG (c :: t) = (decG t).map (c :: ·) := by rw [decG.eq_def]; exact if_neg h
theorem decG_pct (x y : UInt8) (r : List UInt8) : decG (37 :: x :: y :: r) = match hexG 0 [x, y] with
        | some v => (decG r).map (UInt8.ofNat v :: ·)
        | none => none := by rw [decG.eq_def]; exact if_pos rfl
theorem decG_short (t : List UInt8) (h : t.length < 2) : decG (37 :: t) = none := by
  rw [decG.eq_def]
  refine (if_pos rfl).trans ?_
  match t, h with
  | [], _ => rfl
  | [_], _ => rfl
  | _ :: _ :: _, h => simp at h; omega
theorem decG_app (r : List UInt8) : ∀ a : List UInt8, 37 ∉ a → decG (a ++ r) = (decG r).map (a ++ ·) := by
  intro a
  induction a with
  | nil => intro _; simp
  | cons c t ih =>
    intro h
    rw [List.mem_cons, not_or] at h
    rw [List.cons_append, decG_plain c _ (fun e => h.1 e.symm), ih h.2, Option.map_map]
    rfl
theorem hexv_le {c : UInt8} {d : Nat} (h : hexv c = some d) : d ≤ 15 := by
  unfold hexv at h
  split at h
  · injection h with h; omega
  · split at h
    · injection h with h; omega
    · cases h
theorem hexG2_le {x y : UInt8} {v : Nat} (h : hexG 0 [x, y] = some v) : v ≤ 255 := by
  simp only [hexG] at h
  cases hx : hexv x with
  | none => rw [hx] at h; cases h
  | some a =>
    rw [hx] at h
    simp only at h
    cases hy : hexv y with
    | none => rw [hy] at h; cases h
    | some b =>
      rw [hy] at h
      simp only at h
      injection h with h
      have := hexv_le hx
      have := hexv_le hy
      omega
def unqO (s : ByteArray) : Option (List UInt8) → Option ByteArray
  | some t => if t ≠ [] ∧ quoteV ⟨t.toArray⟩ = s then some ⟨t.toArray⟩ else none
  | none => none
def unqV (s : ByteArray) : Option ByteArray := if s.data.toList = [37] then some ⟨#[]⟩ else unqO s (decG s.data.toList)
def unqP : Option ByteArray → ByteArray × Int
  | some t => (t, 0)
  | none => (⟨#[]⟩, 2)
theorem unqV_of {s : ByteArray} {o : Option (List UInt8)} (h : s.data.toList ≠ [37]) (hd : decG s.data.toList = o) : unqV s = unqO s o := by
  unfold unqV
  rw [if_neg h, hd]
end Go.Proofs.YtghbaehbgefpaaaGreatDoor.Hand
