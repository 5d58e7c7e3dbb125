import Derived.Test.YtocpfgdajomjiaaDoorProg
import Derived.WalkKit
import Derived.Lib.ConvBytes
import Derived.Outline
import Derived.Lib.Hide
import Derived.Deep.QuietTactic
import Derived.BigQuiet
import Derived.Test.YtocpfgdajomjiaaDoorTextB
import Derived.Test.YtocpfgdajomjiaaDoorSpl
import Derived.Test.YtocpfgdajomjiaaDoorTextA
import Derived.OwnWalkIn
import Derived.Maps.AppendAt
import Derived.RegionIn
/- Several texts of this session in one (merge.py): the walks of the functions that the laws reach. -/
namespace Go.Proofs.YtocpfgdajomjiaaDoor.SumW
open Go.RowKit
set_option linter.unusedVariables false
set_option linter.unusedSimpArgs false

/-- One byte more: A, then B. -/
def adlStep (p : Nat × Nat) (c : UInt8) : Nat × Nat := ((p.1 + c.toNat) % 65521, (p.2 + (p.1 + c.toNat) % 65521) % 65521)
def adl (p : Nat × Nat) (l : List UInt8) : Nat × Nat := l.foldl adlStep p
def adlStart (n : Nat) : Nat × Nat := (n % 65536 % 65521, n / 65536 % 65521)
def adlSum (p : Nat × Nat) : Nat := p.2 * 65536 + p.1

theorem adl_lt (l : List UInt8) : ∀ (p : Nat × Nat), p.1 < 65521 → p.2 < 65521 → (adl p l).1 < 65521 ∧ (adl p l).2 < 65521 := by
  induction l with
  | nil => intro p h1 h2; exact ⟨h1, h2⟩
  | cons c l ih => intro p h1 h2; exact ih _ (Nat.mod_lt _ (by decide)) (Nat.mod_lt _ (by decide))
theorem adl_snoc (p : Nat × Nat) (l : List UInt8) (c : UInt8) : adl p (l ++ [c]) = adlStep (adl p l) c := by
  simp [adl, List.foldl_append]
theorem adlStart_lt (n : Nat) : (adlStart n).1 < 65521 ∧ (adlStart n).2 < 65521 := ⟨Nat.mod_lt _ (by decide), Nat.mod_lt _ (by decide)⟩

theorem and65535 (n : Nat) (h : n < 4294967296) : bits .and .u32 (n : Int) 65535 = ((n % 65536 : Nat) : Int) := by
  have := u32_and_nat n 65535 h (by decide)
  rw [nat_mask16] at this
  exact this
theorem orShift (a b : Nat) (ha : a < 65521) (hb : b < 65521) : bits .or .u32 ((b : Int) * 65536) (a : Int) = ((b * 65536 + a : Nat) : Int) := by
  have h := u32_or_nat (b * 65536) a (by omega) (by omega)
  rw [nat_join 16 (b * 65536) a (by omega) (by omega)] at h
  simpa using h

theorem below_bytes {B : Nat} {a w : World} (h : Below B a w) (hB : B ≤ w.heap.size) (e : TypeId) (s : ByteArray) : Below B a (Lib.bytesWorld w e s) :=
  h.trans ⟨rfl, rfl, rfl, by rw [Lib.bytesWorld_size]; omega, fun k hk => Lib.bytesWorld_at_old w e s k (by omega)⟩
theorem bytes_frozen_old (w : World) (e : TypeId) (s : ByteArray) (a : Addr) (ha : a.block < w.heap.size) : (Lib.bytesWorld w e s).frozen? a = w.frozen? a :=
  World.frozen?_of_block (Lib.bytesWorld_at_old w e s a.block ha)

set_option maxHeartbeats 800000 in
theorem add_walk (n : Nat) (s : ByteArray) (w : World) (h1 : n < 4294967296) (hs : s.size ≤ 140737488351232) :
    Calls Tryd.prog 92 #[.int .u32 (n : Int), .string s] w fun e w' => e = .returned (.int .u32 ((adlSum (adl (adlStart n) s.data.toList) : Nat) : Int)) ∧ Below w.heap.size w w' := by
  have hcv := fun (W : World) => Lib.run_convert_string_bytes (P := Tryd.prog) W 9 48 5 s Tryd.underlying9 Tryd.underlying48 Tryd.underlying5
  have ha := and65535 n h1
  go_enter Tryd.func92, Tryd.ntmps92
  go_wp2
  clear ha hcv
  go_loopw [7, 18] (fun v7 i wr => ∃ (k : Nat) (a b : Nat), k ≤ s.size ∧ i = .int .i64 k ∧ Hid ((a, b) = adl (adlStart n) (s.data.toList.take k)) ∧ a < 65521 ∧ b < 65521 ∧
      wr.cell? ⟨w.heap.size, 0, none⟩ = some (.int .u32 (a : Int)) ∧ wr.cell? ⟨w.heap.size, 1, none⟩ = some (.int .u32 (b : Int)) ∧
      wr.frozen? ⟨w.heap.size, 0, none⟩ = false ∧ wr.frozen? ⟨w.heap.size, 1, none⟩ = false ∧
      (∀ j, j < s.size → wr.cell? ⟨w.heap.size + 1, j, none⟩ = some (.int .u8 (s.data.toList.getD j 0).toNat)) ∧ Below w.heap.size w wr)
    (fun _ i _ => s.size - (intOf i).toNat)
  case atStart =>
    have hst := adlStart_lt n
    refine ⟨0, (adlStart n).1, (adlStart n).2, Nat.zero_le _, rfl, rfl, hst.1, hst.2, ?_, ?_, ?_, ?_, ?_, ?_⟩
    · rw [Lib.bytesWorld_old _ _ _ _ (by simp)]; simp [adlStart]
    · rw [Lib.bytesWorld_old _ _ _ _ (by simp)]; simp [adlStart]
    · rw [bytes_frozen_old _ _ _ _ (by simp)]; simp
    · rw [bytes_frozen_old _ _ _ _ (by simp)]; simp
    · intro j hj
      have := Lib.bytesWorld_cell (w.alloc (Obj.cells #[Value.int IntKind.u32 (↑n % 65536 % 65521), Value.int IntKind.u32 (↑n / 65536 % 65521)] 112)) 5 s j hj
      simpa using this
    · exact below_bytes ((Below.refl _ _).alloc (Nat.le_refl _) _) (by simp) _ _
  case round =>
    obtain ⟨k, a, b, hk, rfl, hab, la, lb, ca, cb, fa, fb, hcell, hB⟩ := hrel
    by_cases hlt : k < s.size
    · have hc := hcell k hlt
      have hc8 : (s.data.toList.getD k 0).toNat < 256 := UInt8.toNat_lt _
      have hCell : Hid _ := Lib.hid hcell
      clear hcell
      obtain ⟨c, hcv⟩ : ∃ c, Hid ((s.data.toList.getD k 0).toNat = c) := ⟨_, rfl⟩
      rw [hcv.out] at hc hc8
      go_wp2
      go_roundw
      case rel =>
        have hstep : adl (adlStart n) (s.data.toList.take (k + 1)) = ((a + c) % 65521, (b + (a + c) % 65521) % 65521) := by
          have hk' : k < s.data.toList.length := by simpa using hlt
          rw [List.take_succ_eq_append_getElem hk', adl_snoc, ← hab.out, ← hcv.out]
          simp [adlStep, List.getD_eq_getElem?_getD, List.getElem?_eq_getElem hk']
        refine ⟨k + 1, (a + c) % 65521, (b + (a + c) % 65521) % 65521, by omega, by go_num, hstep.symm, Nat.mod_lt _ (by decide), Nat.mod_lt _ (by decide), ?_, ?_, ?_, ?_, ?_, ?_⟩
        · go_simp
        · go_simp
        · simp [fa]
        · simp [fb]
        · intro j hj
          have := hCell.out j hj
          go_simp
        · exact (hB.setCell (p := ⟨w.heap.size, 0, none⟩) (Nat.le_refl _) _).setCell (p := ⟨w.heap.size, 1, none⟩) (Nat.le_refl _) _
      case measure => simp [intOf]; omega
    · have ho := orShift a b la lb
      clear hcell
      go_wp2
      go_ret
      refine ⟨?_, hB⟩
      rw [List.take_of_length_le (by simp; omega)] at hab
      rw [← hab.out]
      rfl
def hexd (n : Nat) : UInt8 := UInt8.ofNat (if n < 10 then 48 + n else 87 + n)
def hexList (n : Nat) : List UInt8 := if h : n < 16 then [hexd n] else hexList (n / 16) ++ [hexd (n % 16)]
decreasing_by omega

theorem hexList_lt {n : Nat} (h : n < 16) : hexList n = [hexd n] := by rw [hexList, dif_pos h]
theorem hexList_ge {n : Nat} (h : 16 ≤ n) : hexList n = hexList (n / 16) ++ [hexd (n % 16)] := by rw [hexList, dif_neg (by omega)]
theorem hexList_pos (n : Nat) : 1 ≤ (hexList n).length := by
  by_cases h : n < 16
  · rw [hexList_lt h]; simp
  · rw [hexList_ge (by omega)]; simp
theorem hexList_len : ∀ (k n : Nat), n < 16 ^ k → 1 ≤ k → (hexList n).length ≤ k := by
  intro k
  induction k with
  | zero => intro n _ h; omega
  | succ k ih =>
    intro n hn _
    by_cases h : n < 16
    · rw [hexList_lt h]; simp
    · rw [hexList_ge (by omega)]
      have hk : 1 ≤ k := by
        rcases Nat.eq_zero_or_pos k with rfl | h'
        · simp at hn; omega
        · exact h'
      have := ih (n / 16) (by rw [Nat.div_lt_iff_lt_mul (by decide)]; rw [Nat.pow_succ] at hn; omega) hk
      simp; omega

set_option maxHeartbeats 400000 in
theorem tz16 (w : World) (hc : w.cell? ⟨7, 15, none⟩ = some (.int .u8 4)) :
    Calls Tryd.prog 140 #[.int .u64 16] w fun e w' => e = .returned (.int .i64 4) ∧ w' = w := by
  have h1 : bits .and .u64 16 (IntKind.u64.wrap (-16)) = 16 := by decide +kernel
  have h2 : IntKind.u64.wrap (16 * 285870213051353865) = 4573923408821661840 := by decide +kernel
  go_enter Tryd.func140, Tryd.ntmps140
  go_wp2
  go_ret
  exact ⟨rfl, rfl⟩
set_option maxHeartbeats 400000 in
theorem tz16' (w : World) (hc : w.cell? ⟨7, 15, none⟩ = some (.int .u8 4)) :
    Calls Tryd.prog 136 #[.int .u64 16] w fun e w' => e = .returned (.int .i64 4) ∧ w' = w := by
  go_enter Tryd.func136, Tryd.ntmps136
  go_wp2_with (go_at_call 140; refine (tz16 _ hc).mono ?_; rintro e w' ⟨rfl, rfl⟩)
  go_ret
  exact ⟨rfl, rfl⟩
set_option maxHeartbeats 400000 in
theorem p216 (w : World) :
    Calls Tryd.prog 135 #[.int .i64 16] w fun e w' => e = .returned (.bool true) ∧ w' = w := by
  have h1 : bits .and .i64 16 15 = 0 := by decide +kernel
  go_enter Tryd.func135, Tryd.ntmps135
  go_wp2
  go_ret
  exact ⟨rfl, rfl⟩
theorem and15 (n : Nat) (h : n < 18446744073709551616) : bits .and .u64 (n : Int) 15 = ((n % 16 : Nat) : Int) := by
  have := u64_and_nat n 15 h (by decide)
  rw [nat_mask4] at this
  exact this

theorem digs_at : ∀ (m : Nat) (h : m < 36), (⟨#[48, 49, 50, 51, 52, 53, 54, 55, 56, 57, 97, 98, 99, 100, 101, 102, 103, 104, 105, 106, 107, 108, 109, 110, 111, 112, 113, 114, 115, 116, 117, 118, 119, 120, 121, 122]⟩ : ByteArray)[m] = hexd m := by decide +kernel
def z65 : Array Value := Array.replicate 65 (.int .u8 0)
theorem sl65 (W : World) (b l : Nat) (h : l < 65) : (Instr.sliceAt 135 (.pointer (some ⟨b, 0, none⟩)) (some (.int .i64 (l : Int))) none none).run Tryd.prog W = .ok (.slice (some ⟨b, l, none⟩) (65 - l) (65 - l)) W := by
  have h1 : Tryd.prog.arrayLen 135 = 65 := by kernel_rfl
  have h2 : Tryd.prog.elem 135 = 5 := by kernel_rfl
  rw [run_sliceAt_array_l W 135 _ (by rw [h1, h2]; exact Tryd.underlying135) _ _ (by omega) (by rw [h1]; omega), h1, h2]
  have h3 : (sizeOf 5).run Tryd.prog W = .ok 1 W := by kernel_rfl
  rw [h3]
  simp [Result.andThen, slicedAt, show ¬ 65 = l by omega, Addr.add]
  intro e; exact e.symm
theorem zero65 (w : World) : (zeroValue 135).run Tryd.prog w = .ok (.agg z65) w := by kernel_rfl
theorem z65_at (w : World) (o : Nat) (h : o < 65) : (w.alloc (.cells z65 135)).cell? ⟨w.heap.size, o, none⟩ = some (.int .u8 0) := by
  simp [z65, h]

set_option maxRecDepth 100000 in
set_option maxHeartbeats 1000000 in
theorem formatBits16 (u : Nat) (w : World) (hu : u < 18446744073709551616) (hc : w.cell? ⟨7, 15, none⟩ = some (.int .u8 4)) (hw : 7 < w.heap.size) :
    Calls Tryd.prog 129 #[.slice none 0 0, .int .u64 (u : Int), .int .i64 16, .bool false, .bool false] w fun e w' => e = .returned (.tuple #[.slice none 0 0, .string ⟨(hexList u).toArray⟩]) ∧ Below w.heap.size w w' := by
  have hc1 : (w.alloc (.cells z65 135)).cell? ⟨7, 15, none⟩ = some (.int .u8 4) := by rw [World.cell?_alloc_old _ _ _ (by simp; omega)]; exact hc
  have hz := zero65
  go_enter Tryd.func129, Tryd.ntmps129
  go_wp2_with (first | (go_at_call 135; refine (p216 _).mono ?_; rintro e w' ⟨rfl, rfl⟩) | (go_at_call 136; refine (tz16' _ hc1).mono ?_; rintro e w' ⟨rfl, rfl⟩))
  clear hc1 hz
  have hlen : (hexList u).length ≤ 16 := hexList_len 16 u (by omega) (by omega)
  go_loopw [1, 13] (fun v1 v13 wr => ∃ (v c : Nat) (ds : List UInt8), v1 = .int .u64 (v : Int) ∧ v13 = .int .i64 (c : Int) ∧ v < 18446744073709551616 ∧ c ≤ 65 ∧ Hid (c + ds.length = 65) ∧ Hid (hexList v ++ ds = hexList u) ∧
      Hid (∀ o, o < 65 → ∃ x, wr.cell? ⟨w.heap.size, o, none⟩ = some x) ∧ Hid (∀ o, wr.frozen? ⟨w.heap.size, o, none⟩ = false) ∧
      Hid (∀ j, j < ds.length → wr.cell? ⟨w.heap.size, c + j, none⟩ = some (.int .u8 (ds.getD j 0).toNat)) ∧ Below w.heap.size w wr)
    (fun v1 _ _ => (intOf v1).toNat)
  case atStart =>
    refine ⟨u, 65, [], rfl, rfl, hu, Nat.le_refl _, rfl, by simp [Hid], fun o ho => ⟨_, z65_at w o ho⟩, fun o => by simp, fun j hj => by simp at hj, (Below.refl _ _).alloc (Nat.le_refl _) _⟩
  case round =>
    obtain ⟨v, c, ds, rfl, rfl, hv, hc65, hcd, hds, hcell, hfr, hdc, hB⟩ := hrel
    have hl1 := congrArg List.length hds.out
    rw [List.length_append] at hl1
    have hp := hexList_pos v
    have hcd' := hcd.out
    have hc49 : 49 ≤ c - 1 := by omega
    clear hcd' hl1 hp hlen
    obtain ⟨x, hx⟩ := hcell.out (c - 1) (by omega)
    have hf := hfr.out (c - 1)
    by_cases hge : 16 ≤ v
    · have ha := and15 v hv
      go_wp2
      go_roundw
      case rel =>
        rw [hexList_ge hge] at hds
        refine ⟨v / 16, c - 1, hexd (v % 16) :: ds, by simp, by simp; omega, by omega, by omega, ?_, ?_, ?_, ?_, ?_, ?_⟩
        · have := hcd.out
          show c - 1 + (ds.length + 1) = 65
          omega
        · have := hds.out
          show hexList (v / 16) ++ hexd (v % 16) :: ds = hexList u
          rw [← this]
          simp
        · intro o ho
          by_cases e : o = c - 1
          · subst e
            exact ⟨_, World.cell?_setCell_same _ _ _ hx⟩
          · obtain ⟨y, hy⟩ := hcell.out o ho
            refine ⟨y, ?_⟩
            rw [World.cell?_setCell_other _ _ _ _ (by intro e_; simp at e_ <;> omega)]
            exact hy
        · intro o
          simpa using hfr.out o
        · intro j hj
          rw [digs_at (v % 16) (by omega)]
          cases j with
          | zero => exact World.cell?_setCell_same _ _ _ hx
          | succ j =>
            rw [World.cell?_setCell_other _ _ _ _ (by intro e_; simp at e_ <;> omega)]
            have := hdc.out j (by simpa using hj)
            rw [show c - 1 + (j + 1) = c + j by omega]
            simpa using this
        · exact hB.setCell (p := ⟨w.heap.size, c - 1, none⟩) (Nat.le_refl _) _
      case measure => simp [intOf]; omega
    · have hv16 : v < 16 := by omega
      have hcast : (c : Int) - 1 = ((c - 1 : Nat) : Int) := by omega
      have hsl := fun W => sl65 W w.heap.size (c - 1) (by omega)
      rw [← hcast] at hsl
      have hdig := fun h => digs_at v h
      have hcv : ∀ dst, Tryd.prog.underlying dst = some .string → (convert 48 dst (.slice (some ⟨w.heap.size, c - 1, none⟩) (65 - (c - 1)) (65 - (c - 1)))).run Tryd.prog (wr.setCell ⟨w.heap.size, c - 1, none⟩ (.int .u8 (hexd v).toNat)) = .ok (.string (strOfNums ((hexd v :: ds).map fun b => (b.toNat : Int)))) (wr.setCell ⟨w.heap.size, c - 1, none⟩ (.int .u8 (hexd v).toNat)) := by
        refine run_convert_bytes_arg _ 48 5 Tryd.underlying48 Tryd.underlying5 w.heap.size (c - 1) _ _ _ (by have := hcd.out; simp; omega) ?_
        intro j hj
        cases j with
        | zero => exact World.cell?_setCell_same _ _ _ hx
        | succ j =>
          rw [World.cell?_setCell_other _ _ _ _ (by intro e_; simp at e_ <;> omega)]
          have := hdc.out j (by have := hcd.out; omega)
          rw [show c - 1 + (j + 1) = c + j by omega, this]
          have hj' : j < ds.length := by have := hcd.out; omega
          simp [List.getD_eq_getElem?_getD, List.getElem?_eq_getElem hj']
      replace hcv := hcv 9 Tryd.underlying9
      have hfin : strOfNums ((hexd v :: ds).map fun b => (b.toNat : Int)) = ⟨(hexList u).toArray⟩ := by
        have := hds.out
        rw [hexList_lt hv16] at this
        rw [← this]
        simp [strOfNums, Function.comp_def]
      rw [hfin] at hcv
      clear hfin hcast
      go_wp2
      go_ret2
      exact ⟨rfl, hB.setCell (p := ⟨w.heap.size, c - 1, none⟩) (Nat.le_refl _) _⟩

set_option maxHeartbeats 400000 in
theorem formatUint16 (u : Nat) (w : World) (hu : u < 18446744073709551616) (hc : w.cell? ⟨7, 15, none⟩ = some (.int .u8 4)) (hw : 7 < w.heap.size) :
    Calls Tryd.prog 114 #[.int .u64 (u : Int), .int .i64 16] w fun e w' => e = .returned (.string ⟨(hexList u).toArray⟩) ∧ Below w.heap.size w w' := by
  go_enter Tryd.func114, Tryd.ntmps114
  go_wp2_with (go_at_call 129; refine (formatBits16 u _ hu hc hw).mono ?_; rintro e w1 ⟨rfl, hb⟩)
  go_ret
  exact ⟨rfl, hb⟩
set_option maxHeartbeats 400000 in
theorem formatUint16' (u : Nat) (w : World) (hu : u < 18446744073709551616) (hc : w.cell? ⟨7, 15, none⟩ = some (.int .u8 4)) (hw : 7 < w.heap.size) :
    Calls Tryd.prog 91 #[.int .u64 (u : Int), .int .i64 16] w fun e w' => e = .returned (.string ⟨(hexList u).toArray⟩) ∧ Below w.heap.size w w' := by
  go_enter Tryd.func91, Tryd.ntmps91
  go_wp2_with (go_at_call 114; refine (formatUint16 u _ hu hc hw).mono ?_; rintro e w1 ⟨rfl, hb⟩)
  go_ret
  exact ⟨rfl, hb⟩

/-- Eight digits of base 16. -/
def hex8 (n : Nat) : ByteArray := ⟨((hexList (n + 4294967296)).drop 1).toArray⟩
theorem orTop (n : Nat) (h : n < 4294967296) : bits .or .u64 (n : Int) 4294967296 = ((n + 4294967296 : Nat) : Int) := by
  have h1 := u64_or_nat n 4294967296 (by omega) (by decide)
  rw [Nat.or_comm, nat_join 32 4294967296 n (by decide) (by simpa using h), Nat.add_comm] at h1
  exact h1

theorem formatTop (n : Nat) (w : World) (hn : n < 4294967296) (hc : w.cell? ⟨7, 15, none⟩ = some (.int .u8 4)) (hw : 7 < w.heap.size) :
    Calls Tryd.prog 91 #[.int .u64 ((n : Int) + 4294967296), .int .i64 16] w fun e w' => ∃ s : ByteArray, 1 ≤ s.size ∧ Hid (s.extract 1 s.size = hex8 n) ∧ e = .returned (.string s) ∧ Below w.heap.size w w' := by
  have h := formatUint16' (n + 4294967296) w (by omega) hc hw
  simp only [Int.natCast_add] at h
  refine h.mono fun e w' ⟨he, hb⟩ => ⟨⟨(hexList (n + 4294967296)).toArray⟩, by have := hexList_pos (n + 4294967296); simpa [ByteArray.size] using this, ?_, he, hb⟩
  show _ = hex8 n
  unfold hex8
  apply ByteArray.ext
  simp [ByteArray.size, List.take_of_length_le]

set_option maxHeartbeats 400000 in
theorem hex_walk (n : Nat) (w : World) (hn : n < 4294967296) (hc : w.cell? ⟨7, 15, none⟩ = some (.int .u8 4)) (hw : 7 < w.heap.size) :
    Calls Tryd.prog 66 #[.int .u32 (n : Int)] w fun e w' => e = .returned (.string (hex8 n)) ∧ Below w.heap.size w w' := by
  have ho := orTop n hn
  go_enter Tryd.func66, Tryd.ntmps66
  go_wp2_with (go_at_call 91; refine (formatTop n _ hn hc hw).mono ?_; rintro e w1 ⟨s, hs1, hs, rfl, hb⟩)
  go_ret
  rw [hs.out]
  exact ⟨rfl, hb⟩

/-- THE TABLE THAT IS READ: math/bits.deBruijn64tab at 15. -/
structure Glob (w : World) : Prop where
  cell : w.cell? ⟨7, 15, none⟩ = some (.int .u8 4)
  size : 7 < w.heap.size
theorem Glob.below {w w' : World} (h : Glob w) (hb : Below w.heap.size w w') : Glob w' :=
  ⟨(hb.cell (p := ⟨7, 15, none⟩) (by have := h.size; simp; omega)).trans h.cell, Nat.le_trans h.size hb.size⟩

def sum_Add.f (n : Int) (s : ByteArray) : Option Int := if 0 ≤ n ∧ n < 4294967296 ∧ s.size ≤ 140737488351232 then some ((adlSum (adl (adlStart n.toNat) s.data.toList) : Nat) : Int) else none
theorem sum_Add.calls (a0 : Int) (a1 : ByteArray) (r : Int) (w : World) (h : sum_Add.f a0 a1 = some r) :
    Calls Tryd.prog 92 #[.int .u32 a0, .string a1] w fun e w' => e = .returned (.int .u32 r) ∧ Below w.heap.size w w' := by
  unfold sum_Add.f at h
  split at h
  · rename_i hc
    obtain ⟨h0, h1, h2⟩ := hc
    obtain ⟨n, rfl⟩ := Int.eq_ofNat_of_zero_le h0
    cases h
    exact add_walk n a1 w (by omega) h2
  · cases h
def sum_Hex.f (n : Int) : Option ByteArray := if 0 ≤ n ∧ n < 4294967296 then some (hex8 n.toNat) else none
theorem sum_Hex.calls (a0 : Int) (r : ByteArray) (w : World) (hG : Glob w) (h : sum_Hex.f a0 = some r) :
    Calls Tryd.prog 66 #[.int .u32 a0] w fun e w' => e = .returned (.string r) ∧ Below w.heap.size w w' := by
  unfold sum_Hex.f at h
  split at h
  · rename_i hc
    obtain ⟨h0, h1⟩ := hc
    obtain ⟨n, rfl⟩ := Int.eq_ofNat_of_zero_le h0
    cases h
    exact hex_walk n w (by omega) hG.cell hG.size
  · cases h
end Go.Proofs.YtocpfgdajomjiaaDoor.SumW
/- line.Put. -/
namespace Go.Proofs.YtocpfgdajomjiaaDoor.Hand
open Go.RowKit Go.Proofs.YtocpfgdajomjiaaDoorW.PrintWords
set_option linter.unusedVariables false
set_option linter.unusedSimpArgs false
theorem bld_isF {b B1 : Nat} {bs : List Value} {w : World} (h : Bld b B1 bs w) : Lib.IsBuilderF 59 5 b b bs w := by
  obtain ⟨h1, h2, p, v, hp, hb, hown⟩ := h
  have hlow : w.ownsRowF b 5 1 v bs.length bs := by
    refine ⟨hown.1, ?_⟩
    rcases hown.2 with hz | ⟨g, cap, cur, fz, hv, hg, hr⟩
    · exact .inl hz
    · exact .inr ⟨g, cap, cur, fz, hv, by omega, hr⟩
  have hat : Lib.BuilderAtF 59 5 b b p bs w := ⟨Nat.le_refl _, v, hb, hlow, Lib.ownBlock_neF hown hb (by decide)⟩
  rcases hp with rfl | rfl
  · exact .inl hat
  · exact .inr hat
theorem bld_of_isF {b : Nat} {bs : List Value} {w : World} (h : Lib.IsBuilderF 59 5 b b bs w) : Bld b (b + 1) bs w := by
  have key : ∀ p, (p = .pointer none ∨ p = .pointer (some ⟨b, 0, none⟩)) → Lib.BuilderAtF 59 5 b b p bs w → Bld b (b + 1) bs w := by
    intro p hp hat
    obtain ⟨-, v, hb, hown, hne⟩ := hat
    refine ⟨Nat.lt_succ_self b, (Array.getElem?_eq_some_iff.1 hb).1, p, v, hp, hb, hown.1, ?_⟩
    rcases hown.2 with hz | ⟨g, cap, cur, fz, hv, hg, hr⟩
    · exact .inl hz
    · refine .inr ⟨g, cap, cur, fz, hv, ?_, hr⟩
      have : g ≠ b := by
        intro e
        apply hne
        rw [hv, e]
        rfl
      omega
  rcases h with h | h
  · exact key _ (.inl rfl) h
  · exact key _ (.inr rfl) h
theorem apart_of_belowB {b : Nat} {w w' : World} (h : Below b w w') : Apart b (b + 1) w w' := ⟨h.os, h.tape, h.output, h.size, fun k hk hne => h.block k (by omega)⟩
theorem bstring2 (b : Nat) (l : List UInt8) (w : World) (h : Bld b (b + 1) (Lib.byteCells l) w) :
    Calls Tryd.prog 54 #[.pointer (some ⟨b, 0, none⟩)] w fun e w' => e = .returned (.string ⟨l.toArray⟩) ∧ Bld b (b + 1) (Lib.byteCells l) w' ∧ Apart b (b + 1) w w' :=
  (Tryd.Builder_String_any_f b b l w (bld_isF h) (by have := h.2.1; omega)).mono fun e w' h => ⟨h.1, bld_of_isF h.2.1, apart_of_belowB h.2.2⟩
theorem blen (b B1 : Nat) (bs : List Value) (w : World) (h : Bld b B1 bs w) :
    Calls Tryd.prog 68 #[.pointer (some ⟨b, 0, none⟩)] w fun e w' => e = .returned (.int .i64 bs.length) ∧ w = w' :=
  (Tryd.Builder_Len_f b b bs w (bld_isF h)).mono fun e w' h => ⟨h.1, h.2.symm⟩
def adlOf (l : List UInt8) : Nat := SumW.adlSum (SumW.adl (SumW.adlStart 1) l)
theorem adlOf_lt (l : List UInt8) : adlOf l < 4294967296 := by
  have h := SumW.adlStart_lt 1
  have := SumW.adl_lt l _ h.1 h.2
  unfold adlOf SumW.adlSum
  omega
theorem of_walk (s : ByteArray) (hs : s.size ≤ 140737488351232) (w : World) : Calls Tryd.prog 67 #[.string s] w fun e w' => e = .returned (.int .u32 (adlOf s.data.toList : Nat)) ∧ Below w.heap.size w w' := by
  have HA := Lib.hid (SumW.add_walk 1 s w (by decide) hs)
  go_enter Tryd.func67, Tryd.ntmps67
  go_wp2_with (go_at_call 92; refine HA.out.mono ?_; rintro e w' ⟨rfl, hb⟩)
  go_ret
  exact ⟨rfl, hb⟩
def bodyL (l : List ByteArray) : List UInt8 := l.flatMap fun s => (quoteV s).data.toList ++ [32]
def lineL (l : List ByteArray) : List UInt8 := bodyL l ++ (SumW.hex8 (adlOf (bodyL l))).data.toList ++ [10]
def putV (l : List ByteArray) : ByteArray × Int := if l.length = 0 then (⟨#[]⟩, 1) else if 40 < l.length then (⟨#[]⟩, 3) else if 13000 < (lineL l).length then (⟨#[]⟩, 3) else (⟨(lineL l).toArray⟩, 0)
theorem bodyL_snoc (l : List ByteArray) (x : ByteArray) : bodyL (l ++ [x]) = bodyL l ++ ((quoteV x).data.toList ++ [32]) := by simp [bodyL]
theorem quoteV_len (s : ByteArray) : (quoteV s).size ≤ 3 * s.size + 1 := by
  unfold quoteV
  split
  · show 1 ≤ _
    omega
  · have := quote_len s.data.toList
    have h2 : s.data.toList.length = s.size := by rw [Array.length_toList]; rfl
    rw [h2] at this
    show (s.data.toList.flatMap quoteB).toArray.size ≤ _
    rw [List.size_toArray]
    omega
theorem bodyL_len (m : Nat) : ∀ l : List ByteArray, (∀ x ∈ l, x.size ≤ m) → (bodyL l).length ≤ (3 * m + 2) * l.length := by
  intro l
  induction l with
  | nil => intro _; exact Nat.le_refl _
  | cons x r ih =>
    intro h
    have h1 := ih fun y hy => h y (by simp [hy])
    have h2 := quoteV_len x
    have h3 := h x (by simp)
    have h4 : (quoteV x).data.toList.length = (quoteV x).size := by rw [Array.length_toList]; rfl
    show (((quoteV x).data.toList ++ [32]) ++ bodyL r).length ≤ _
    rw [List.length_append, List.length_append, h4, List.length_cons (a := x), Nat.mul_succ]
    simp only [List.length_cons, List.length_nil]
    omega
end Go.Proofs.YtocpfgdajomjiaaDoor.Hand
/- line.Put. -/
namespace Go.Proofs.YtocpfgdajomjiaaDoor.Hand
open Go.RowKit Go.Proofs.YtocpfgdajomjiaaDoorW.PrintWords
set_option linter.unusedVariables false
set_option linter.unusedSimpArgs false
theorem cells_of_C {w : World} {A : Option Addr} {l : List ByteArray} (hC : Kd.C Kd.string w A l.length l) (h0 : 0 < l.length) :
    ∃ bk o, A = some ⟨bk, o, none⟩ ∧ bk < w.heap.size ∧ ∀ (j : Nat) (h : j < l.length), w.cell? ⟨bk, o + j, none⟩ = some (.string l[j]) := by
  obtain ⟨ad, rfl, hxs⟩ := hC.2.2 h0
  have hcell : ∀ (j : Nat) y, l[j]? = some y → w.cell? (ad.add j) = some (.string y) := by
    intro j y hy
    obtain ⟨cs, hl, hk, hcs⟩ := hxs j y hy
    obtain rfl : cs = [.string y] := hk
    have := hcs 0 _ rfl
    simpa [Kd.string, Kd.scalar] using this
  have h1 := hcell 0 _ (List.getElem?_eq_getElem h0)
  obtain ⟨bk, o, sp⟩ := ad
  obtain rfl : sp = none := by
    cases sp with
    | none => rfl
    | some k =>
      have h0' : w.cell? ⟨bk, o, some k⟩ = some (.string l[0]) := by simpa [Addr.add] using h1
      unfold World.cell? at h0'
      simp only [Option.isSome_some, if_true] at h0'
      split at h0' <;> cases h0'
  have hadd : ∀ j, (⟨bk, o, none⟩ : Addr).add j = ⟨bk, o + j, none⟩ := by
    intro j
    unfold Addr.add
    split
    · next h => rw [h]; rfl
    · rfl
  refine ⟨bk, o, rfl, cell_lt' (p := ⟨bk, o, none⟩) (by rwa [hadd] at h1), fun j h => ?_⟩
  rw [← hadd]
  exact hcell j _ (List.getElem?_eq_getElem h)
theorem hexList_ge8 : ∀ (k n : Nat), 16 ^ k ≤ n → k + 1 ≤ (SumW.hexList n).length := by
  intro k
  induction k with
  | zero =>
    intro n h
    exact SumW.hexList_pos n
  | succ k ih =>
    intro n h
    have hp : 16 ^ (k + 1) = 16 ^ k * 16 := Nat.pow_succ 16 k
    have h1 : 1 ≤ 16 ^ k := Nat.pos_of_ne_zero (by simp)
    rw [SumW.hexList_ge (by omega), List.length_append]
    have := ih (n / 16) (by omega)
    simp only [List.length_cons, List.length_nil]
    omega
theorem hex8_size (n : Nat) (h : n < 4294967296) : (SumW.hex8 n).size = 8 := by
  have h1 := SumW.hexList_len 9 (n + 4294967296) (by omega) (by decide)
  have h2 := hexList_ge8 8 (n + 4294967296) (by omega)
  show ((SumW.hexList (n + 4294967296)).drop 1).toArray.size = 8
  rw [List.size_toArray, List.length_drop]
  omega
def pOut (p : ByteArray × Int) : Value := .tuple #[.string p.1, .int .i64 p.2]
set_option maxHeartbeats 8000000 in
set_option maxRecDepth 100000 in
theorem put_walk (A : Option Addr) (c : Nat) (l : List ByteArray) (w : World) (hG : Hand2.Glob w) (hC : Kd.C Kd.string w A l.length l) (hc : l.length ≤ c) (hx : ∀ x ∈ l, x.size ≤ 100000) :
    Calls Tryd.prog 40 #[.slice A l.length c] w fun e w' => e = .returned (pOut (putV l)) ∧ Below w.heap.size w w' := by
  have HG := Lib.hid hG
  by_cases h0 : l.length = 0
  · have hX : Hid (putV l = (⟨#[]⟩, 1)) := by rw [Hid, putV, if_pos h0]
    rw [h0]
    clear hC hc h0
    go_enter Tryd.func40, Tryd.ntmps40
    go_wp2
    go_ret2
    exact ⟨by rw [hX.out]; rfl, Below.refl _ _⟩
  · by_cases h40 : 40 < l.length
    · have hX : Hid (putV l = (⟨#[]⟩, 3)) := by rw [Hid, putV, if_neg h0, if_pos h40]
      clear hC
      generalize l.length = n at *
      have h1 : decide (n = 0) = false := decide_eq_false h0
      clear h0
      go_enter Tryd.func40, Tryd.ntmps40
      go_wp2
      go_ret2
      exact ⟨by rw [hX.out]; rfl, Below.refl _ _⟩
    · obtain ⟨bk, o, rfl, hbk, hcell⟩ := cells_of_C hC (by omega)
      have HCELL := Lib.hid hcell
      have HX := Lib.hid hx
      clear hC hcell hx
      obtain ⟨n, hn⟩ : ∃ n, Hid (l.length = n) := ⟨_, Lib.hid rfl⟩
      rw [hn.out] at h0 h40 hc ⊢
      have h1 : ((n : Int) == 0) = false := beq_eq_false_iff_ne.2 (by omega)
      have h2 : n ≤ 40 := by omega
      have hn1 : 1 ≤ n := by omega
      clear h0 h40
      go_enter Tryd.func40, Tryd.ntmps40
      go_wp2
      obtain ⟨w0, hw0⟩ : ∃ w0, w.alloc (Obj.cells #[Value.pointer none, Value.slice none 0 0] 59) = w0 := ⟨_, rfl⟩
      have hs0 : w0.heap.size = w.heap.size + 1 := by rw [← hw0]; simp
      have hB0 : Hid (Below w.heap.size w w0) := by
        rw [Hid, ← hw0]
        exact (Below.refl _ _).alloc (Nat.le_refl _) _
      have hbl0 : Hid (Bld w.heap.size (w.heap.size + 1) [] w0) := by
        refine ⟨by omega, by rw [hs0]; omega, _, _, .inl rfl, ?_, World.ownsRowF_nil _ _ _ _⟩
        rw [← hw0]
        exact World.alloc_heap_new w _
      rw [hw0]
      clear hw0
      go_loopw [17] (fun i wr => ∃ k : Nat, k ≤ n ∧ i = .int .i64 k ∧ Hid (Bld w.heap.size (w.heap.size + 1) (Lib.byteCells (bodyL (l.take k))) wr) ∧ Hid (Apart w.heap.size (w.heap.size + 1) w0 wr))
        (fun i _ => n - (intOf i).toNat)
      case atStart => exact ⟨0, Nat.zero_le _, rfl, hbl0, Apart.refl _ _ _⟩
      case round =>
        obtain ⟨k, hk, rfl, hbl, hA⟩ := hrel
        have hlen : Hid ((bodyL (l.take k)).length ≤ 300002 * k) := by
          have h3 := bodyL_len 100000 (l.take k) fun x hm => HX.out x (List.mem_of_mem_take hm)
          have h4 : (l.take k).length ≤ k := List.length_take_le _ _
          rw [Hid]
          exact Nat.le_trans h3 (Nat.mul_le_mul_left _ h4)
        by_cases hlt : k < n
        · have hkl : k < l.length := by rw [hn.out]; exact hlt
          have hc1 : wr.cell? ⟨bk, o + k, none⟩ = some (.string l[k]) := (hA.out.cell (p := ⟨bk, o + k, none⟩) (by show bk < _; omega) (by show bk ≠ _; omega)).trans ((hB0.out.cell (p := ⟨bk, o + k, none⟩) hbk).trans (HCELL.out k hkl))
          have hxk := HX.out l[k] (List.getElem_mem hkl)
          have hst : Hid (bodyL (l.take (k + 1)) = bodyL (l.take k) ++ ((quoteV l[k]).data.toList ++ [32])) := by
            rw [Hid, List.take_succ_eq_append_getElem hkl, bodyL_snoc]
          generalize l[k] = x at hc1 hst hxk
          have hqs := quoteV_len x
          have hql : Hid ((quoteV x).data.toList.length = (quoteV x).size) := by rw [Hid, Array.length_toList]; rfl
          have HQ := Lib.hid (quote_walk x hxk wr)
          obtain ⟨q, hq⟩ : ∃ q, quoteV x = q := ⟨_, rfl⟩
          rw [hq] at hqs hql hst HQ
          clear hq
          have hz1 : Hid ((q ++ (⟨#[32]⟩ : ByteArray)).size = q.size + 1) := by rw [Hid, ByteArray.size_append]; rfl
          have hz2 : Hid (Lib.strCells (q ++ (⟨#[32]⟩ : ByteArray)) = Lib.byteCells (q.data.toList ++ [32])) := by
            rw [Hid, Lib.strCells_eq]
            congr 1
            try simp [ByteArray.data_append, Array.toList_append]
          have hwl : Hid ((Lib.byteCells (bodyL (l.take k))).length + (q ++ (⟨#[32]⟩ : ByteArray)).size ≤ 100000000) := by
            have := hlen.out
            rw [Hid, Lib.byteCells_length, hz1.out]
            omega
          go_wp2_with (first | (go_at_call 22; refine HQ.out.mono ?_; rintro e W1 ⟨rfl, hb1⟩; have HL1 := Lib.hid (bld_below hbl.out hb1); have HA1 := Lib.hid (hA.out.trans (apart_of_below hb1 hbl.out.2.1)); clear hb1) | (go_at_call 64; refine (writeString w.heap.size (w.heap.size + 1) _ _ _ HL1.out hwl.out).mono ?_; rintro e W2 ⟨rfl, hb2, hA2⟩; have HL2 := Lib.hid hb2; have HA2 := Lib.hid (HA1.out.trans hA2); clear hb2 hA2))
          go_roundw
          case rel =>
            refine ⟨k + 1, by omega, by go_num, ?_, HA2⟩
            have := HL2.out
            rw [hz2.out] at this
            rw [Hid, hst.out, Lib.byteCells_append]
            exact this
          case measure => simp [intOf]; omega
        · have hkn : k = n := by omega
          subst hkn
          have htk : l.take k = l := List.take_of_length_le (by rw [hn.out]; exact Nat.le_refl _)
          rw [htk] at hbl hlen
          clear htk
          have hHT := Lib.hid ((hB0.out.trans (hA.out.below (by omega))))
          obtain ⟨B, hB⟩ : ∃ B, Hid (bodyL l = B) := ⟨_, Lib.hid rfl⟩
          rw [hB.out] at hbl hlen
          have hBs : Hid ((⟨B.toArray⟩ : ByteArray).size = B.length) := by rw [Hid]; exact List.size_toArray
          have hBs2 : (⟨B.toArray⟩ : ByteArray).size ≤ 140737488351232 := by have := hlen.out; rw [hBs.out]; omega
          have had : (⟨B.toArray⟩ : ByteArray).data.toList = B := rfl
          have HS := Lib.hid (bstring2 w.heap.size B wr hbl.out)
          have HOF := Lib.hid fun W => of_walk ⟨B.toArray⟩ hBs2 W
          rw [had] at HOF
          clear hBs2 had
          obtain ⟨t, ht⟩ : ∃ t, (⟨B.toArray⟩ : ByteArray) = t := ⟨_, rfl⟩
          rw [ht] at HS HOF
          have hadl := adlOf_lt B
          have HX8 := Lib.hid fun W h1 h2 => SumW.hex_walk (adlOf B) W hadl h1 h2
          obtain ⟨H8, hH8⟩ : ∃ H8, Hid (SumW.hex8 (adlOf B) = H8) := ⟨_, Lib.hid rfl⟩
          rw [hH8.out] at HX8
          have h8l : Hid (H8.size = 8) := by
            rw [Hid, ← hH8.out]
            exact hex8_size _ hadl
          obtain ⟨a, ha⟩ : ∃ a, Hid (adlOf B = a) := ⟨_, Lib.hid rfl⟩
          rw [ha.out] at HOF HX8
          clear hadl ht
          have h8b : H8.size ≤ 8 := by rw [h8l.out]; exact Nat.le_refl 8
          have hz1 : Hid ((H8 ++ (⟨#[10]⟩ : ByteArray)).size = 9) := by rw [Hid, ByteArray.size_append, h8l.out]; rfl
          have hz2 : Hid (Lib.strCells (H8 ++ (⟨#[10]⟩ : ByteArray)) = Lib.byteCells (H8.data.toList ++ [10])) := by
            rw [Hid, Lib.strCells_eq]
            congr 1
            try simp [ByteArray.data_append, Array.toList_append]
          have hwl : Hid ((Lib.byteCells B).length + (H8 ++ (⟨#[10]⟩ : ByteArray)).size ≤ 100000000) := by
            have := hlen.out
            rw [Hid, Lib.byteCells_length, hz1.out]
            omega
          have hline : Hid (lineL l = B ++ H8.data.toList ++ [10]) := by
            rw [Hid]
            unfold lineL
            rw [hB.out, ha.out, ← hH8.out, ha.out]
          have hlt2 : Hid ((B ++ (H8.data.toList ++ [10])).length = (lineL l).length) := by rw [Hid, hline.out, List.append_assoc]
          go_wp2_with (go_at_call 54; refine HS.out.mono ?_)
          rintro e W1 ⟨rfl, hb1, hA1⟩
          have HL1 := Lib.hid hb1
          have HA1 := Lib.hid (hA.out.trans hA1)
          clear hb1 hA1
          go_wp2_with (go_at_call 67; refine (HOF.out _).mono ?_)
          rintro e W2 ⟨rfl, hb2⟩
          have HL2 := Lib.hid (bld_below HL1.out hb2)
          have HA2 := Lib.hid (HA1.out.trans (apart_of_below hb2 HL1.out.2.1))
          have HG2 := Lib.hid (HG.out.below ((hB0.out.trans (HA2.out.below (by omega)))))
          clear hb2
          go_wp2_with (go_at_call 66; refine (HX8.out _ HG2.out.bru (cell_lt' HG2.out.bru)).mono ?_)
          rintro e W3 ⟨rfl, hb3⟩
          have HL3 := Lib.hid (bld_below HL2.out hb3)
          have HA3 := Lib.hid (HA2.out.trans (apart_of_below hb3 HL2.out.2.1))
          clear hb3
          go_wp2_with (go_at_call 64; refine (writeString w.heap.size (w.heap.size + 1) _ _ _ HL3.out hwl.out).mono ?_)
          rintro e W4 ⟨rfl, hb4, hA4⟩
          have HL4 : Hid (Bld w.heap.size (w.heap.size + 1) (Lib.byteCells (B ++ (H8.data.toList ++ [10]))) W4) := by
            rw [hz2.out] at hb4
            rw [Hid, Lib.byteCells_append]
            exact hb4
          have HA4 := Lib.hid (HA3.out.trans hA4)
          clear hb4 hA4
          have HT4 := Lib.hid (hB0.out.trans (HA4.out.below (by omega)))
          have HLEN : Hid (Calls Tryd.prog 68 #[.pointer (some ⟨w.heap.size, 0, none⟩)] W4 fun e w' => e = .returned (.int .i64 ((lineL l).length : Nat)) ∧ W4 = w') := by
            have := blen _ _ _ W4 HL4.out
            rw [Lib.byteCells_length, hlt2.out] at this
            exact this
          obtain ⟨m, hm⟩ : ∃ m, Hid ((lineL l).length = m) := ⟨_, Lib.hid rfl⟩
          rw [hm.out] at HLEN
          by_cases h13 : 13000 < m
          · have HX : Hid (putV l = (⟨#[]⟩, 3)) := by
              rw [Hid, putV, if_neg (by rw [hn.out]; omega), if_neg (by rw [hn.out]; omega), if_pos (by rw [hm.out]; exact h13)]
            go_wp2_with (go_at_call 68; refine HLEN.out.mono ?_; rintro e W5 ⟨rfl, rfl⟩)
            go_ret2
            exact ⟨by rw [HX.out]; rfl, HT4.out⟩
          · have HX : Hid (putV l = (⟨(lineL l).toArray⟩, 0)) := by
              rw [Hid, putV, if_neg (by rw [hn.out]; omega), if_neg (by rw [hn.out]; omega), if_neg (by rw [hm.out]; exact h13)]
            have h13' : m ≤ 13000 := by omega
            have HS4 := Lib.hid (bstring2 w.heap.size (B ++ (H8.data.toList ++ [10])) W4 HL4.out)
            rw [← List.append_assoc, ← hline.out] at HS4
            clear h13
            go_wp2_with (first | (go_at_call 68; refine HLEN.out.mono ?_; rintro e W5 ⟨rfl, rfl⟩) | (go_at_call 54; refine HS4.out.mono ?_; rintro e W6 ⟨rfl, hb6, hA6⟩; have HT6 := Lib.hid (hB0.out.trans ((HA4.out.trans hA6).below (by omega))); clear hb6 hA6))
            go_ret2
            exact ⟨by rw [HX.out]; rfl, HT6.out⟩
end Go.Proofs.YtocpfgdajomjiaaDoor.Hand
/- line.Take. -/
namespace Go.Proofs.YtocpfgdajomjiaaDoor.Hand
open Go.RowKit Go.Proofs.YtocpfgdajomjiaaDoorW.PrintWords
set_option linter.unusedVariables false
set_option linter.unusedSimpArgs false
def hexB : ByteArray := ⟨#[48, 49, 50, 51, 52, 53, 54, 55, 56, 57, 97, 98, 99, 100, 101, 102]⟩
def hexL : List UInt8 := [48, 49, 50, 51, 52, 53, 54, 55, 56, 57, 97, 98, 99, 100, 101, 102]
theorem ascii_hex : ∀ (j : Nat) b, hexB.data.toList[j]? = some b → b.toNat < 128 := ascii_of_all (by decide)
theorem trim_hex (s : ByteArray) (hs : s.size ≤ 100000) (w : World) :
    Calls Tryd.prog 58 #[.string s, .string hexB] w fun e w' => e = .returned (.string ⟨(Lib.trimS s.data.toList hexL).toArray⟩) ∧ Below w.heap.size w w' :=
  Any.strings_Trim_laid Tryd.lays160 Tryd.info89 s hexB w (by omega) (by decide) ascii_hex
theorem dropWhile_nil {p : UInt8 → Bool} : ∀ l : List UInt8, l.dropWhile p = [] ↔ l.all p = true := by
  intro l
  induction l with
  | nil => simp
  | cons c t ih =>
    rw [List.dropWhile_cons, List.all_cons]
    by_cases h : p c = true
    · rw [if_pos h, h, ih]
      simp
    · rw [if_neg h]
      simp [h]
theorem mem_tw {p : UInt8 → Bool} : ∀ (l : List UInt8) (c : UInt8), c ∈ l.takeWhile p → p c = true := by
  intro l
  induction l with
  | nil => intro c h; simp at h
  | cons x t ih =>
    intro c h
    rw [List.takeWhile_cons] at h
    split at h
    next hx =>
      rcases List.mem_cons.1 h with e | e
      · subst e; exact hx
      · exact ih c e
    next => simp at h
theorem trimS_nil (l cs : List UInt8) : Lib.trimS l cs = [] ↔ l.all (fun c => cs.contains c) = true := by
  unfold Lib.trimS Lib.trimRightS Lib.trimLeftS
  rw [dropWhile_nil, List.all_reverse, List.all_eq_true]
  constructor
  · intro h
    rw [List.all_eq_true]
    intro c hc
    by_cases hm : c ∈ l.reverse.dropWhile fun c => cs.contains c
    · exact h c hm
    · have h2 : c ∈ l.reverse.takeWhile (fun c => cs.contains c) := by
        have := List.takeWhile_append_dropWhile (p := fun c => cs.contains c) (l := l.reverse)
        have hr : c ∈ l.reverse := by simpa using hc
        rw [← this] at hr
        rcases List.mem_append.1 hr with h | h
        · exact h
        · exact absurd h hm
      exact mem_tw _ c h2
  · intro h c hc
    rw [List.all_eq_true] at h
    exact h c (by
      have := (List.dropWhile_sublist (p := fun c => cs.contains c) (l := l.reverse)).mem hc
      simpa using this)
/-- May what is ahead of the line feed be a line? -/
def formB (a : ByteArray) : Bool := decide (9 ≤ a.size) && decide (a.size < 13000) && decide (a.data.toList[a.size - 9]? = some 32) && (a.data.toList.drop (a.size - 8)).all (fun c => hexL.contains c)
def blankB : ByteArray := ⟨#[32]⟩
def wordsB (a : ByteArray) : List ByteArray := Lib.splitB blankB 0 (Lib.countB (a.extract 0 (a.size - 9)) blankB) (a.extract 0 (a.size - 9))
def takeB (a r : ByteArray) : List ByteArray × ByteArray × Int :=
  if formB a = false then ([], ⟨#[]⟩, 2) else if 40 < (wordsB a).length then ([], ⟨#[]⟩, 2) else if (wordsB a).all (fun x => (unqV x).isSome) = false then ([], ⟨#[]⟩, 2)
  else if SumW.hex8 (adlOf (a.data.toList.take (a.size - 8))) = a.extract (a.size - 8) a.size then ((wordsB a).map fun x => (unqV x).getD ⟨#[]⟩, r, 0) else ([], ⟨#[]⟩, 13)
def takeV (s : ByteArray) : List ByteArray × ByteArray × Int :=
  if (Lib.cut s.data.toList [10]).2.2 = false then ([], ⟨#[]⟩, 14) else takeB ⟨(Lib.cut s.data.toList [10]).1.toArray⟩ ⟨(Lib.cut s.data.toList [10]).2.1.toArray⟩
/-- How Take ends. -/
def TakeEnd (w : World) (p : List ByteArray × ByteArray × Int) (e : Ending) (w' : World) : Prop :=
  ∃ v : Value, e = .returned (.tuple #[v, .string p.2.1, .int .i64 p.2.2]) ∧ Kd.R Kd.string 9 w' w.heap.size (fun _ => True) v p.1 ∧ Below w.heap.size w w'
theorem TakeEnd.err {w w' : World} {p : List ByteArray × ByteArray × Int} {c : Int} (h : p = ([], ⟨#[]⟩, c)) (hb : Below w.heap.size w w') : TakeEnd w p (.returned (.tuple #[.slice none 0 0, .string ⟨#[]⟩, .int .i64 c])) w' := by
  subst h
  exact ⟨_, rfl, Kd.R_nil _ _ _ _ _, hb⟩
theorem splG_size (c : UInt8) : ∀ (l cur : List UInt8), ∀ x ∈ Spl.splG c cur l, x.length ≤ cur.length + l.length := by
  intro l
  induction l with
  | nil =>
    intro cur x hx
    rw [Spl.splG, List.mem_singleton] at hx
    subst hx
    simp
  | cons b t ih =>
    intro cur x hx
    rw [Spl.splG] at hx
    split at hx
    · rcases List.mem_cons.1 hx with e | e
      · subst e
        rw [List.length_reverse, List.length_cons]
        omega
      · have := ih [] x e
        simp only [List.length_nil, List.length_cons] at this ⊢
        omega
    · have := ih (b :: cur) x hx
      simp only [List.length_cons] at this ⊢
      omega
theorem words_data (a : ByteArray) : (wordsB a).map (·.data.toList) = Spl.splG 32 [] (a.extract 0 (a.size - 9)).data.toList := by
  unfold wordsB
  rw [Lib.splitB_data]
  exact Spl.splitK_G 32 _
theorem words_size (a : ByteArray) : ∀ x ∈ wordsB a, x.size ≤ a.size := by
  intro x hx
  have h1 : x.data.toList ∈ Spl.splG 32 [] (a.extract 0 (a.size - 9)).data.toList := by
    rw [← words_data]
    exact List.mem_map_of_mem hx
  have h2 := splG_size 32 _ _ _ h1
  have h3 : x.data.toList.length = x.size := by rw [Array.length_toList]; rfl
  have h4 : (a.extract 0 (a.size - 9)).data.toList.length = (a.extract 0 (a.size - 9)).size := by rw [Array.length_toList]; rfl
  rw [h3, h4, ByteArray.size_extract] at h2
  simp only [List.length_nil] at h2
  omega
theorem infoStr2 : (Tryd.prog.info? 9).map (fun i => (i.zero, i.size, i.bytes)) = some (some (.string ⟨#[]⟩), 1, 16) := by kernel_rfl
def uq (x : ByteArray) : ByteArray := (unqV x).getD ⟨#[]⟩
theorem glob_cell {w : World} (h : Hand2.Glob w) : ∃ m, w.cell? ⟨2, 0, none⟩ = some (.int .i64 m) := h.g.cell
set_option maxHeartbeats 8000000 in
set_option maxRecDepth 100000 in
theorem take_walk (s : ByteArray) (hs : s.size ≤ 100000) (w : World) (hG : Hand2.Glob w) :
    Calls Tryd.prog 42 #[.string s] w (TakeEnd w (takeV s)) := by
  have HG := Lib.hid hG
  clear hG
  obtain ⟨m, hm⟩ := HG.out.g.cell
  have hcut := Lib.hid (Tryd.strings_Cut s ⟨#[10]⟩ m w (by omega) hm)
  clear hm
  rw [show ((⟨#[10]⟩ : ByteArray).data.toList) = [10] from rfl] at hcut
  obtain ⟨R, hR⟩ : ∃ R, takeV s = R := ⟨_, rfl⟩
  have hR' := hR
  unfold takeV at hR'
  have hspec := cut_one 10 s.data.toList
  have hsl : s.data.toList.length = s.size := by rw [Array.length_toList]; rfl
  obtain ⟨a, ha⟩ : ∃ a : ByteArray, (⟨(Lib.cut s.data.toList [10]).1.toArray⟩ : ByteArray) = a := ⟨_, rfl⟩
  obtain ⟨r, hr⟩ : ∃ r : ByteArray, (⟨(Lib.cut s.data.toList [10]).2.1.toArray⟩ : ByteArray) = r := ⟨_, rfl⟩
  have had : (Lib.cut s.data.toList [10]).1 = a.data.toList := by rw [← ha]
  rw [ha, hr] at hcut hR'
  rw [had] at hspec
  have hal : a.data.toList.length = a.size := by rw [Array.length_toList]; rfl
  have has : a.size ≤ s.size := by
    rcases hspec.2 with ⟨-, h⟩ | ⟨-, h⟩
    · have := congrArg List.length h
      rw [hsl, List.length_append, hal] at this
      omega
    · have := congrArg List.length h
      rw [hsl, hal] at this
      omega
  rw [hR]
  have HR := Lib.hid hR'
  clear hR hR' hspec hsl ha hr had
  generalize (Lib.cut s.data.toList [10]).2.2 = found at hcut HR
  cases found with
  | false =>
    have HX : Hid (R = ([], ⟨#[]⟩, 14)) := by rw [Hid, ← HR.out, if_pos rfl]
    clear HR
    go_enter Tryd.func42, Tryd.ntmps42
    go_wp2_with (go_at_call 63; refine hcut.out.mono ?_; rintro e W1 ⟨rfl, nd, rfl⟩)
    exact bodyPost_ret (v := .tuple #[.slice none 0 0, .string ⟨#[]⟩, .int .i64 14]) (by simp [results, Tryd.results42, go_sem]) rfl (TakeEnd.err HX.out (belowD _ _))
  | true =>
    have HX : Hid (R = takeB a r) := by rw [Hid, ← HR.out, if_neg (by decide)]
    clear HR
    have hcut2 : Hid (∀ e w', (e = Ending.returned (.tuple #[.string a, .string r, .bool true]) ∧ ∃ n, w' = w.drewN n) → Below w.heap.size w w') := by
      rintro e w' ⟨-, n, rfl⟩
      exact belowD _ _
    by_cases h9 : a.size < 9
    · have HY : Hid (R = ([], ⟨#[]⟩, 2)) := by
        rw [Hid, HX.out, takeB, if_pos]
        unfold formB
        rw [decide_eq_false (by omega : ¬ 9 ≤ a.size)]
        rfl
      go_enter Tryd.func42, Tryd.ntmps42
      go_wp2_with (go_at_call 63; refine hcut.out.mono ?_; rintro e W1 ⟨rfl, nd, rfl⟩)
      exact bodyPost_ret (v := .tuple #[.slice none 0 0, .string ⟨#[]⟩, .int .i64 2]) (by simp [results, Tryd.results42, go_sem]) rfl (TakeEnd.err HY.out (belowD _ _))
    · by_cases h13 : 13000 ≤ a.size
      · have HY : Hid (R = ([], ⟨#[]⟩, 2)) := by
          rw [Hid, HX.out, takeB, if_pos]
          unfold formB
          rw [decide_eq_false (by omega : ¬ a.size < 13000)]
          simp
        go_enter Tryd.func42, Tryd.ntmps42
        go_wp2_with (go_at_call 63; refine hcut.out.mono ?_; rintro e W1 ⟨rfl, nd, rfl⟩)
        exact bodyPost_ret (v := .tuple #[.slice none 0 0, .string ⟨#[]⟩, .int .i64 2]) (by simp [results, Tryd.results42, go_sem]) rfl (TakeEnd.err HY.out (belowD _ _))
      · obtain ⟨k, hk⟩ : ∃ k, a.size = k + 9 := ⟨a.size - 9, by omega⟩
        have hkl : k < a.size := by omega
        have hk13 : k < 12991 := by omega
        have e8 : (a.size : Int) - 8 = (k : Int) + 1 := by omega
        have hne : ¬ (k : Int) + 9 ≥ 13000 := by omega
        have hz : (a.size : Int) < 13000 := by omega
        by_cases hb : a[k] = 32
        · have hb32 : (a[k].toNat : Int) = 32 := by rw [hb]; rfl
          have h32 : decide (a.data.toList[k]? = some 32) = true := by
            apply decide_eq_true
            rw [List.getElem?_eq_getElem (by omega)]
            exact congrArg some hb
          have hk8 : a.size - 8 = k + 1 := by omega
          have hk9 : a.size - 9 = k := by omega
          have hform : formB a = (a.data.toList.drop (k + 1)).all (fun c => hexL.contains c) := by
            unfold formB
            rw [hk9, hk8, h32, decide_eq_true (by omega : 9 ≤ a.size), decide_eq_true (by omega : a.size < 13000)]
            rfl
          have e9 : (k : Int) + 1 - 1 = (k : Int) := by omega
          have hto : ((k : Int) + 1).toNat = k + 1 := by omega
          have htl : (a.extract (k + 1) a.size).size ≤ 100000 := by rw [ByteArray.size_extract]; omega
          have htd : (a.extract (k + 1) a.size).data.toList = a.data.toList.drop (k + 1) := by
            rw [← ext_drop]
          have HTR := Lib.hid fun W => trim_hex (a.extract (k + 1) a.size) htl W
          rw [htd] at HTR
          obtain ⟨T, hT⟩ : ∃ T : ByteArray, (⟨(Lib.trimS (a.data.toList.drop (k + 1)) hexL).toArray⟩ : ByteArray) = T := ⟨_, rfl⟩
          have hTd : T.toList = Lib.trimS (a.data.toList.drop (k + 1)) hexL := by rw [ByteArray.toList_eq, ← hT]
          rw [hT] at HTR
          have HK := Lib.hid hk
          have HK8 := Lib.hid hk8
          have HK9 := Lib.hid hk9
          have HFORM := Lib.hid hform
          have HTD := Lib.hid hTd
          clear hb hne h9 h13 hal hcut2 hk h32 hk8 hk9 hform htd hT hTd htl
          cases hTe : T.toList.isEmpty with
          | false =>
            have HY : Hid (R = ([], ⟨#[]⟩, 2)) := by
              rw [Hid, HX.out, takeB, if_pos]
              rw [HFORM.out]
              cases hall : (a.data.toList.drop (k + 1)).all (fun c => hexL.contains c) with
              | false => rfl
              | true =>
                rw [HTD.out, (trimS_nil _ _).2 hall] at hTe
                simp at hTe
            go_enter Tryd.func42, Tryd.ntmps42
            go_wp2_with (go_at_call 63; refine hcut.out.mono ?_)
            rintro e W1 ⟨rfl, nd, rfl⟩
            go_wp2_with (go_at_call 58; refine (HTR.out _).mono ?_)
            rintro e W2 ⟨rfl, hb2⟩
            have HB2 := Lib.hid ((belowD w nd).trans (hb2.mono (belowD w nd).size))
            clear hb2
            go_wp2
            exact bodyPost_ret (v := .tuple #[.slice none 0 0, .string ⟨#[]⟩, .int .i64 2]) (by simp [results, Tryd.results42, go_sem]) rfl (TakeEnd.err HY.out HB2.out)
          | true =>
            have HF : Hid (formB a = true) := by
              rw [Hid, HFORM.out, ← trimS_nil, ← HTD.out]
              exact List.isEmpty_iff.1 hTe
            go_enter Tryd.func42, Tryd.ntmps42
            go_wp2_with (go_at_call 63; refine hcut.out.mono ?_)
            rintro e W1 ⟨rfl, nd, rfl⟩
            go_wp2_with (go_at_call 58; refine (HTR.out _).mono ?_)
            rintro e W2 ⟨rfl, hb2⟩
            have HB2 := Lib.hid ((belowD w nd).trans (hb2.mono (belowD w nd).size))
            have HG2 := Lib.hid (HG.out.below HB2.out)
            clear hb2
            obtain ⟨m2, hm2⟩ := glob_cell HG2.out
            have hxs : (a.extract 0 k).size < 4294967281 := by rw [ByteArray.size_extract]; omega
            have HS := Lib.hid (Tryd.strings_Split (a.extract 0 k) blankB m2 W2 hxs hm2 (by decide))
            have hpl : (wordsB a).length = Lib.countB (a.extract 0 k) blankB + 1 := by
              unfold wordsB
              rw [HK9.out]
              exact Lib.splitB_all blankB (by decide) 0 _ _ rfl
            have hps : Lib.splitB blankB 0 (Lib.countB (a.extract 0 k) blankB) (a.extract 0 k) = wordsB a := by
              unfold wordsB
              rw [HK9.out]
            have HWS := Lib.hid (words_size a)
            rw [hps] at HS
            clear hm2 hps hxs
            obtain ⟨cn, hcn⟩ : ∃ cn, Lib.countB (a.extract 0 k) blankB = cn := ⟨_, rfl⟩
            rw [hcn] at HS hpl
            clear hcn
            obtain ⟨ws, hws⟩ : ∃ ws, wordsB a = ws := ⟨_, rfl⟩
            rw [hws] at HS hpl HWS
            have HPL := Lib.hid hpl
            have HTB : Hid (R = if 40 < ws.length then ([], ⟨#[]⟩, 2) else if ws.all (fun x => (unqV x).isSome) = false then ([], ⟨#[]⟩, 2) else if SumW.hex8 (adlOf (a.data.toList.take (k + 1))) = a.extract (k + 1) a.size then (ws.map uq, r, 0) else ([], ⟨#[]⟩, 13)) := by
              rw [Hid, HX.out]
              unfold takeB
              rw [if_neg (by rw [HF.out]; decide), hws, HK8.out]
              rfl
            clear hws
            obtain ⟨W3, hW3⟩ : ∃ W3, W2.alloc (.cells (ws.map Value.string).toArray 9) = W3 := ⟨_, rfl⟩
            rw [hW3] at HS
            have hpc : Hid (∀ j (h : j < ws.length), W3.cell? ⟨W2.heap.size, j, none⟩ = some (.string ws[j])) := by
              intro j h
              have hb := World.alloc_heap_new W2 (.cells (ws.map Value.string).toArray 9)
              rw [hW3] at hb
              rw [Lib.cell_of_heap hb]
              simp [h]
            have HB3 : Hid (Below w.heap.size w W3) := by
              rw [Hid, ← hW3]
              exact HB2.out.alloc HB2.out.size _
            have hs3 : W3.heap.size = W2.heap.size + 1 := by rw [← hW3]; simp
            have HG3 := Lib.hid (HG.out.below HB3.out)
            clear hW3 hpl
            go_wp2_with (go_at_call 52; refine HS.out.mono ?_)
            rintro e w1 ⟨rfl, rfl⟩
            by_cases h40 : 40 < cn + 1
            · have HY : Hid (R = ([], ⟨#[]⟩, 2)) := by rw [Hid, HTB.out, if_pos (by rw [HPL.out]; exact h40)]
              go_wp2
              exact bodyPost_ret (v := .tuple #[.slice none 0 0, .string ⟨#[]⟩, .int .i64 2]) (by simp [results, Tryd.results42, go_sem]) rfl (TakeEnd.err HY.out HB3.out)
            · have h40' : cn ≤ 39 := by omega
              have HTB2 : Hid (R = if ws.all (fun x => (unqV x).isSome) = false then ([], ⟨#[]⟩, 2) else if SumW.hex8 (adlOf (a.data.toList.take (k + 1))) = a.extract (k + 1) a.size then (ws.map uq, r, 0) else ([], ⟨#[]⟩, 13)) := by
                rw [Hid, HTB.out, if_neg (by rw [HPL.out]; exact h40)]
              clear h40
              go_wp2
              go_loopw [10, 57] (fun v i wr => ∃ j : Nat, j ≤ cn + 1 ∧ i = .int .i64 j ∧ Hid (Below w1.heap.size w1 wr) ∧ Hid (Kd.R Kd.string 9 wr w1.heap.size (fun _ => True) v ((ws.take j).map uq)) ∧ Hid ((ws.take j).all (fun x => (unqV x).isSome) = true))
                (fun _ i _ => cn + 1 - (intOf i).toNat)
              case atStart => exact ⟨0, Nat.zero_le _, rfl, Below.refl _ _, Kd.R_nil _ _ _ _ _, rfl⟩
              case round =>
                obtain ⟨j, hj, rfl, hbw, hrow, hall⟩ := hrel
                have HT := Lib.hid (HB3.out.trans (hbw.out.mono HB3.out.size))
                have HGr := Lib.hid (HG.out.below HT.out)
                by_cases hjn : j < cn + 1
                · have hjl : j < ws.length := by rw [HPL.out]; exact hjn
                  have hc : wr.cell? ⟨W2.heap.size, j, none⟩ = some (.string ws[j]) := (hbw.out.cell (p := ⟨W2.heap.size, j, none⟩) (by show W2.heap.size < _; omega)).trans (hpc.out j hjl)
                  have hst : Hid ((ws.take (j + 1)).map uq = (ws.take j).map uq ++ [uq ws[j]]) := by
                    rw [Hid, List.take_succ_eq_append_getElem hjl, List.map_append]
                    rfl
                  have hst2 : Hid ((ws.take (j + 1)).all (fun x => (unqV x).isSome) = (unqV ws[j]).isSome) := by
                    rw [Hid, List.take_succ_eq_append_getElem hjl, List.all_append, hall.out]
                    simp
                  have hmem : Hid (ws[j] ∈ ws) := List.getElem_mem hjl
                  have hxs : Hid (ws[j].size ≤ 100000) := by
                    have := HWS.out _ (List.getElem_mem hjl)
                    rw [Hid]
                    omega
                  generalize ws[j] = x at hc hst hst2 hmem hxs
                  have hf : Hand2.text_Unquote.f x = some ((unqP (unqV x)).1, (unqP (unqV x)).2) := by
                    unfold Hand2.text_Unquote.f
                    rw [if_pos hxs.out]
                  have HQ := Lib.hid (Hand2.text_Unquote.calls x _ _ wr HGr.out hf)
                  clear hf
                  cases hu : unqV x with
                  | none =>
                    rw [hu] at HQ
                    have HQ : Hid (Calls Tryd.prog 35 #[.string x] wr fun e w' => e = .returned (.tuple #[.string ⟨#[]⟩, .int .i64 2]) ∧ Below wr.heap.size wr w') := HQ
                    have HY : Hid (R = ([], ⟨#[]⟩, 2)) := by
                      rw [Hid, HTB2.out, if_pos]
                      rw [List.all_eq_false]
                      exact ⟨x, hmem.out, by rw [hu]; decide⟩
                    clear hu
                    go_wp2_with (go_at_call 35; refine HQ.out.mono ?_; rintro e W4 ⟨rfl, hb4⟩; have HB4 := Lib.hid (HT.out.trans (hb4.mono HT.out.size)); clear hb4)
                    exact bodyPost_ret (v := .tuple #[.slice none 0 0, .string ⟨#[]⟩, .int .i64 2]) (by simp [results, Tryd.results42, go_sem]) rfl (TakeEnd.err HY.out HB4.out)
                  | some t =>
                    rw [hu] at HQ hst2
                    have HQ : Hid (Calls Tryd.prog 35 #[.string x] wr fun e w' => e = .returned (.tuple #[.string t, .int .i64 0]) ∧ Below wr.heap.size wr w') := HQ
                    have hst : Hid ((ws.take (j + 1)).map uq = (ws.take j).map uq ++ [t]) := by
                      rw [Hid, hst.out]
                      unfold uq
                      rw [hu]
                      rfl
                    have hlen : Hid ((((ws.take j).map uq).length + 1) * 16 ≤ 140737488355328) := by
                      have : (ws.take j).length ≤ j := List.length_take_le _ _
                      rw [Hid, List.length_map]
                      omega
                    clear hu
                    go_wp2_with (go_at_call 35; refine HQ.out.mono ?_)
                    rintro e W4 ⟨rfl, hb4⟩
                    have hb5 := Lib.hid (hbw.out.trans (hb4.mono hbw.out.size))
                    have hr5 := Lib.hid (Kd.R_below hrow.out hb4)
                    clear hb4
                    go_wp2_with (at_builtin; refine Kd.R_append Kd.string (w0 := w1) (W := W4) w1.heap.size rfl (.tmp 68) (.tmp 70) 23 9 (.string ⟨#[]⟩) 16 rfl Tryd.underlying23 infoStr2 rfl (by decide) (by decide) u10 ((ws.take j).map uq) t [.string t] (fun _ => True) (fun _ => False) rfl rfl rfl (fun _ h => h.elim) (fun _ _ => trivial) hr5.out hb5.out hb5.out.size hlen.out ?_; intro v3 w3 hR3 hB3 hg3 hat3)
                    have hR3 := Lib.hid hR3
                    have hB3' := Lib.hid hB3
                    clear hB3 hg3 hat3
                    go_wp2
                    go_roundw
                    case rel => exact ⟨j + 1, by omega, by go_num, hB3', by rw [hst.out]; exact hR3, hst2⟩
                    case measure => simp [intOf]; omega
                · have hjn' : j = cn + 1 := by omega
                  subst hjn'
                  have htk : ws.take (cn + 1) = ws := List.take_of_length_le (by rw [HPL.out]; exact Nat.le_refl _)
                  rw [htk] at hrow hall
                  have HTB3 : Hid (R = if SumW.hex8 (adlOf (a.data.toList.take (k + 1))) = a.extract (k + 1) a.size then (ws.map uq, r, 0) else ([], ⟨#[]⟩, 13)) := by
                    rw [Hid, HTB2.out, if_neg (by rw [hall.out]; decide)]
                  have hbd : (a.extract 0 (k + 1)).data.toList = a.data.toList.take (k + 1) := by rw [← ext_take]
                  have hbs : (a.extract 0 (k + 1)).size ≤ 140737488351232 := by rw [ByteArray.size_extract]; omega
                  have hof : ∀ W, Below wr.heap.size wr W → Calls Tryd.prog 67 #[.string (a.extract 0 (k + 1))] W fun e w' => e = .returned (.int .u32 (adlOf (a.data.toList.take (k + 1)) : Nat)) ∧ Below wr.heap.size wr w' := by
                    intro W hW
                    rw [← hbd]
                    exact (of_walk _ hbs W).mono fun e w' h => ⟨h.1, hW.trans (h.2.mono hW.size)⟩
                  have hadl := adlOf_lt (a.data.toList.take (k + 1))
                  have hx8 : ∀ W, Below wr.heap.size wr W → Calls Tryd.prog 66 #[.int .u32 (adlOf (a.data.toList.take (k + 1)) : Nat)] W fun e w' => e = .returned (.string (SumW.hex8 (adlOf (a.data.toList.take (k + 1))))) ∧ Below wr.heap.size wr w' := by
                    intro W hW
                    have hg := HGr.out.below hW
                    exact (SumW.hex_walk _ W hadl hg.bru (cell_lt' hg.bru)).mono fun e w' h => ⟨h.1, hW.trans (h.2.mono hW.size)⟩
                  have HOF := Lib.hid hof
                  have HX8 := Lib.hid hx8
                  clear htk hbd hbs hof hx8 hadl
                  generalize adlOf (a.data.toList.take (k + 1)) = ad at HOF HX8 HTB3
                  generalize SumW.hex8 ad = H8 at HX8 HTB3
                  have hrowE := Lib.hid fun W (hW : Below wr.heap.size wr W) => Kd.R_lower (Kd.R_below hrow.out hW) HB3.out.size
                  by_cases heq : H8 = a.extract (k + 1) a.size
                  · have HY : Hid (R = (ws.map uq, r, 0)) := by rw [Hid, HTB3.out, if_pos heq]
                    have hq : (H8.toList == (a.extract (k + 1) a.size).toList) = true := by rw [heq]; simp
                    have hq2 : (H8.toList != (a.extract (k + 1) a.size).toList) = false := by rw [heq]; simp
                    clear heq
                    go_wp2
                    go_region_with (first | (go_at_call 67; refine (HOF.out _ (by first | exact (Below.refl _ _).drew | assumption)).mono ?_; rintro e w5 ⟨rfl, hb5⟩) | (go_at_call 66; refine (HX8.out _ (by first | exact (Below.refl _ _).drew | assumption)).mono ?_; rintro e w6 ⟨rfl, hb6⟩))
                    all_goals go_wp2
                    all_goals exact bodyPost_ret (v := .tuple #[u10, .string r, .int .i64 0]) (by simp [results, Tryd.results42, go_sem]) rfl ⟨_, by rw [HY.out], by rw [HY.out]; exact hrowE.out _ hb6, HT.out.trans (hb6.mono HT.out.size)⟩
                  · have HY : Hid (R = ([], ⟨#[]⟩, 13)) := by rw [Hid, HTB3.out, if_neg heq]
                    have hq : (H8.toList == (a.extract (k + 1) a.size).toList) = false := by
                      rw [ByteArray.toList_eq, ByteArray.toList_eq, beq_eq_false_iff_ne]
                      exact fun h => heq (ba_ext h)
                    have hq2 : (H8.toList != (a.extract (k + 1) a.size).toList) = true := by
                      rw [bne, hq]
                      rfl
                    clear heq
                    go_wp2
                    go_region_with (first | (go_at_call 67; refine (HOF.out _ (by first | exact (Below.refl _ _).drew | assumption)).mono ?_; rintro e w5 ⟨rfl, hb5⟩) | (go_at_call 66; refine (HX8.out _ (by first | exact (Below.refl _ _).drew | assumption)).mono ?_; rintro e w6 ⟨rfl, hb6⟩))
                    all_goals go_wp2
                    all_goals exact bodyPost_ret (v := .tuple #[.slice none 0 0, .string ⟨#[]⟩, .int .i64 13]) (by simp [results, Tryd.results42, go_sem]) rfl (TakeEnd.err HY.out (HT.out.trans (hb6.mono HT.out.size)))
        · have hbn : ¬ (a[k].toNat : Int) = 32 := by
            intro e
            apply hb
            apply UInt8.toNat_inj.1
            show _ = 32
            omega
          have hbb : ((a[k].toNat : Int) == 32) = false := by simpa using hbn
          have HY : Hid (R = ([], ⟨#[]⟩, 2)) := by
            rw [Hid, HX.out, takeB, if_pos]
            unfold formB
            rw [show a.size - 9 = k by omega, show decide (a.data.toList[k]? = some 32) = false from ?_]
            · simp
            · rw [decide_eq_false_iff_not]
              intro e
              apply hb
              have h2 : a.data.toList[k]? = some a[k] := by
                rw [List.getElem?_eq_getElem (by omega)]
                rfl
              rw [h2] at e
              exact Option.some.inj e
          have HK := Lib.hid hk
          have hbm : ((a[k].toNat : Int) != 32) = true := by simpa using hbn
          have e9 : (k : Int) + 1 - 1 = (k : Int) := by omega
          clear hb hne h9 h13 hal hcut2 hk
          go_enter Tryd.func42, Tryd.ntmps42
          go_wp2_with (go_at_call 63; refine hcut.out.mono ?_; rintro e W1 ⟨rfl, nd, rfl⟩)
          exact bodyPost_ret (v := .tuple #[.slice none 0 0, .string ⟨#[]⟩, .int .i64 2]) (by simp [results, Tryd.results42, go_sem]) rfl (TakeEnd.err HY.out (belowD _ _))
end Go.Proofs.YtocpfgdajomjiaaDoor.Hand
/- A range over an iterator whose values lie in memory that it makes itself, and a body that never leaves; an append in a round. -/
namespace Go.Proofs.YtocpfgdajomjiaaDoor.Range2
open Go Go.RowKit
variable {α : Type}
theorem wpListIn_append_own_at {F : Fence} {n : Nat} {P : Program} (w : World) {ops : Array Oper} {rest : List Oper} {o : Oper} {a : Act} {Q : Exit → Act → World → Prop}
    (hg : o.guard = none) (s x : Operand) (t : TypeId) (hop : o.op = Op.call { callee := Callee.builtin Builtin.append, args := #[s, x], argTypes := #[t, t] })
    (base : Nat) (e : TypeId) (i : TypeInfo) (z : Value) (size bytes : Nat) (h1 : P.underlying t = some (.slice e)) (h2 : P.info? e = some i) (h3 : i.zero = some z) (h4 : i.size = size) (h5 : i.bytes = bytes) (h6 : z.cells.size = size) (h7 : 0 < size)
    (v : Value) (k : Nat) (xs : List Value) (hs : a.eval s = v) (hown : w.ownsRow base e size v k xs) (ad : Addr) (m c : Nat) (news : List Value) (hx : a.eval x = .slice (some ad) m c) (hn : news.length = m * size)
    (hc : ∀ j u, news[j]? = some u → w.cell? (ad.add j) = some u) (h1c : ∀ u ∈ news, u.oneCell' = true) (b1 : k + m ≤ maxLen) (b2 : (k + m) * bytes ≤ 140737488355328) (b3 : base ≤ w.heap.size)
    (hK : ∀ v' w', w'.ownsRow base e size v' (k + m) (xs ++ news) → w.grownBy w' v.ownBlock → (v'.ownBlock = v.ownBlock ∨ v'.ownBlock = some w.heap.size) → wpListIn F n P ops Q rest (a.put o.dst v') w') :
    wpListIn F n P ops Q (o :: rest) a w := by
  refine wpListIn_plain hg fun K hK' => ?_
  obtain ⟨v', w', hrun, r1, r2, -, r3⟩ := run_append_own_at (P := P) w base t o.type e i z size bytes h1 h2 h3 h4 h5 h6 h7 v k xs hown ad m c news hn hc h1c b1 b2 b3
  unfold Oper.wpIn
  refine ⟨?_, ?_⟩
  · simp [Oper.about, hop, resolve, Target.leads, Sem.run_pure]
  · rw [Oper.semAt_plain F _ _ (by rw [hop]; intro c hc'; cases hc')]
    simp [execOp, hop, resolve, invoke, builtin, hs, hx, hrun, Result.andThen]
    exact hK' _ _ (hK v' w' r1 r2 r3)
theorem putObj_size (w : World) (k : Nat) (o : Obj) : (w.putObj k o).heap.size = w.heap.size := by simp [World.putObj]
theorem below_putBoth {W W1 : World} {l : Nat} (o : Obj) (hb : Below W.heap.size W W1) (hl : l < W.heap.size) : Below (W.putObj l o).heap.size (W.putObj l o) (W1.putObj l o) where
  os := hb.os
  tape := hb.tape
  output := hb.output
  size := by rw [putObj_size, putObj_size]; exact hb.size
  block := by
    intro k hk
    rw [putObj_size] at hk
    by_cases e : k = l
    · subst e
      rw [World.putObj_heap_same hl, World.putObj_heap_same (Nat.lt_of_lt_of_le hl hb.size)]
    · rw [World.putObj_heap_other e, World.putObj_heap_other e]
      exact hb.block k hk
/-- What lies below n₀, and block Bn, lie as they lay. -/
structure Kp (n₀ Bn : Nat) (W W' : World) : Prop where
  below : Below n₀ W W'
  box : Bn < W.heap.size → W'.heap[Bn]? = W.heap[Bn]?
theorem Kp.trans {n₀ Bn : Nat} {a b c : World} (h : Kp n₀ Bn a b) (k : Kp n₀ Bn b c) : Kp n₀ Bn a c := ⟨h.below.trans k.below, fun hb => (k.box (Nat.lt_of_lt_of_le hb h.below.size)).trans (h.box hb)⟩
theorem Kp.put {n₀ Bn : Nat} (W : World) (l : Nat) (o : Obj) (h1 : n₀ ≤ l) (h2 : Bn ≠ l) (h3 : l < W.heap.size) : Kp n₀ Bn W (W.putObj l o) :=
  ⟨(Below.refl _ W).grown (grownBy_putObj' W _ _) (by omega) (fun k e => by cases e; omega), fun _ => World.putObj_heap_other h2⟩
/-- How the body ends. -/
def goesOn (B n₀ Bn : Nat) (I : List α → World → Prop) (xs : List α) (W : World) : Exit → Act → World → Prop
  | .normal, _, W' => KeepsFrom B W W' ∧ Kp n₀ Bn W W' ∧ I xs W'
  | _, _, _ => False
/-- The iterator gives xs, one by one, each in memory that is new (Arg: of blocks from the bound on), to a yield that always goes on. -/
def Gives (F : Fence) (n : Nat) (P : Program) (gf : Nat) (lb : Array Value) (Arg : Nat → α → Array Value → World → Prop) (n₀ Bn : Nat) (xs : List α) (w : World) : Prop :=
  ∀ (l : Nat) (J : List α → World → Prop) (W : World), Below w.heap.size w W →
    (∀ pre x vs W0 W1, J pre W0 → n₀ ≤ W0.heap.size → Bn < W0.heap.size → Below W0.heap.size W0 W1 → Arg W0.heap.size x vs W1 → (∃ t, pre ++ x :: t = xs) → YieldAt F (n - 1) P l vs W1 fun e W' => e = .returned (.bool true) ∧ J (pre ++ [x]) W' ∧ Kp n₀ Bn W1 W') →
    J [] W → CallsIn F n P gf (#[.func (.yield l) #[] #[]] ++ lb) W fun e W' => (∃ v, e = .returned v) ∧ ∃ W0, J xs W0 ∧ Below W0.heap.size W0 W'
theorem loop_all {F : Fence} {n : Nat} {P : Program} {g : Operand} {ps : Array Tmp} {assign body : Code} {Q : Exit → Act → World → Prop} {a : Act} {w : World} (hro : F.round = none) (h1 : 1 ≤ n) {gf : Nat} {lb : Array Value}
    (hg : a.eval g = .func (.func gf) #[] lb) (hFg : F.fn gf) (eg : ∀ args w, (callFunc gf args).run P w = .ok (.enter gf args) w) {Arg : Nat → α → Array Value → World → Prop} {n₀ Bn : Nat} {xs : List α} {w0 : World}
    (hseq : Gives F (n - 1) P gf lb Arg n₀ Bn xs w0) (hb0 : Below w0.heap.size w0 w) (hn : n₀ ≤ w.heap.size) (hBn : Bn < w.heap.size) (hps : ∀ b x vs W, Arg b x vs W → vs.size = ps.size)
    (hArg : ∀ b x vs W l o', Arg b x vs W → l < b → Arg b x vs (W.putObj l o')) (I : List α → World → Prop) (hI : ∀ s W W', I s W → Below W.heap.size W W' → I s W')
    (hput : ∀ s W l o o', I s W → w.heap.size ≤ l → W.heap[l]? = some o → Obj.isCells o = false → I s (W.putObj l o')) (h0 : I [] w) (a₁ : Array Value → Act)
    (hassign : ∀ (l b : Nat) (x : α) (vs : Array Value) (W : World) (K : Act → World → Prop), Arg b x vs W → K (a₁ vs) W → assign.wpIn (F.inRound l) (n - 1 - 1) P (Exit.then K (fun _ _ _ => False)) { tmps := (ps.zip vs).foldl (fun t (p, v) => t.setIfInBounds p v) a.tmps, defers := [] } W)
    (hbody : ∀ (l : Nat) (pre : List α) (x : α) (vs : Array Value) (W0 W : World), I pre W0 → n₀ ≤ W0.heap.size → Bn < W0.heap.size → Below W0.heap.size W0 W → Arg W0.heap.size x vs W → (∃ t, pre ++ x :: t = xs) → body.wpIn (F.inRound l) (n - 1 - 1) P (goesOn w.heap.size n₀ Bn I (pre ++ [x]) W) (a₁ vs) W)
    (hdone : ∀ (D : Nat) (W : World), w.heap.size ≤ D → I xs W → W.heap[D]? = some (.deferred (some [])) → Q .normal { a with defers := { target := .collected D, args := #[] } :: a.defers } W) :
    (Code.rangeFunc g ps assign body).wpIn F n P Q a w := by
  apply wpIn_rangeFunc
  intro fn hfn
  rw [hro]
  let rec_ : LoopState → Loop := fun st => { state := st, pending := none, fn := fn, tmps := a.tmps, params := ps, assign := assign, body := body, defers := w.heap.size }
  let V := w.alloc (.deferred (some []))
  have hVs : V.heap.size = w.heap.size + 1 := World.size_alloc _ _
  let U := V.alloc (.loop (rec_ .ready))
  have hUl : U.heap[w.heap.size + 1]? = some (.loop (rec_ .ready)) := by rw [← hVs]; exact World.alloc_heap_new V _
  have hVd : V.heap[w.heap.size]? = some (.deferred (some [])) := World.alloc_heap_new w _
  have hUd : U.heap[w.heap.size]? = some (.deferred (some [])) := (Below.heap_alloc V _ _ (by rw [hVs]; omega)).trans hVd
  have hwV : Below w.heap.size w V := (Below.refl _ w).alloc (Nat.le_refl _) _
  have hVU : Below V.heap.size V U := (Below.refl _ V).alloc (Nat.le_refl _) _
  have hIU : I [] U := hI _ _ _ (hI _ _ _ h0 hwV) hVU
  have hwU : Below w.heap.size w U := hwV.trans (hVU.mono (by rw [hVs]; omega))
  refine ⟨_, _, _, { target := .fn (.func gf) lb, args := #[.func (.yield (w.heap.size + 1)) #[] #[]] }, U, gf, #[.func (.yield (w.heap.size + 1)) #[] #[]] ++ lb, U, run_enterLoop_outer fn a.tmps ps assign body, ?_, ?_, ?_, fun _ => h1, ?_⟩
  · simp only [resolve, hg]
    simp [go_sem]
    rfl
  · intro f' hf'
    simp [Target.leads] at hf'
    subst hf'
    exact hFg
  · simp [invoke, go_sem, eg]
  refine (hseq (w.heap.size + 1) (fun pre W => I pre W ∧ W.heap[w.heap.size + 1]? = some (.loop (rec_ .ready)) ∧ W.heap[w.heap.size]? = some (.deferred (some []))) U (hb0.trans (hwU.mono hb0.size)) ?_ ⟨hIU, hUl, hUd⟩).mono ?_
  · rintro pre x vs W0 W1 ⟨h, hl0, hd0⟩ hn0 hBn0 hb01 hA hx
    have hlt0 := (Array.getElem?_eq_some_iff.1 hl0).1
    have hl := (hb01.block _ hlt0).trans hl0
    have hd := (hb01.block _ (Array.getElem?_eq_some_iff.1 hd0).1).trans hd0
    have hlt := (Array.getElem?_eq_some_iff.1 hl).1
    refine ⟨_, _, _, _, run_yield (P := P) (args := vs) hl (hps _ _ _ _ hA), roundIn_of_wpIn hfn ?_⟩
    refine hassign _ _ x vs W1 _ hA ?_
    refine ⟨_, run_beginRound hl rfl, ?_⟩
    let X := W1.putObj (w.heap.size + 1) (.loop (rec_ .busy))
    have hXl : X.heap[w.heap.size + 1]? = some (.loop (rec_ .busy)) := World.putObj_heap_same hlt
    have hXd : X.heap[w.heap.size]? = some (.deferred (some [])) := (World.putObj_heap_other (by omega)).trans hd
    have hXb : Kp n₀ Bn W1 X := Kp.put W1 _ _ (by omega) (by omega) hlt
    refine wpIn_mono (hbody (w.heap.size + 1) pre x vs (W0.putObj (w.heap.size + 1) (.loop (rec_ .busy))) X (hput _ _ _ _ _ h (by omega) hl0 rfl) (by rw [putObj_size]; exact hn0) (by rw [putObj_size]; exact hBn0) (below_putBoth _ hb01 hlt0)
      (by rw [putObj_size]; exact hArg _ _ _ _ _ _ hA hlt0) hx) ?_
    intro e a3 Y hY
    cases e with
    | normal =>
      obtain ⟨hk, hbY, hIY⟩ := hY
      have hYl := hk.same _ _ (by omega) hXl rfl
      have hYd := hk.same _ _ (Nat.le_refl _) hXd rfl
      have hlt2 := (Array.getElem?_eq_some_iff.1 hYl).1
      refine ⟨_, _, run_endRound none hYl, rfl, ⟨hput _ _ _ _ _ hIY (by omega) hYl rfl, World.putObj_heap_same hlt2, (World.putObj_heap_other (by omega)).trans hYd⟩, ?_⟩
      exact (hXb.trans hbY).trans (Kp.put Y _ _ (by omega) (by omega) hlt2)
    | _ => exact hY.elim
  · rintro e Y ⟨⟨v, rfl⟩, W0, ⟨hI0, hl0, hd0⟩, hb⟩
    have hIY := hI _ _ _ hI0 hb
    have hYl := (hb.block _ (Array.getElem?_eq_some_iff.1 hl0).1).trans hl0
    have hYd := (hb.block _ (Array.getElem?_eq_some_iff.1 hd0).1).trans hd0
    exact ⟨none, _, run_endLoop hYl (by simp [rec_]), hdone _ _ (Nat.le_refl _) (hput _ _ _ _ _ hIY (by omega) hYl rfl) ((World.putObj_heap_other (by omega)).trans hYd)⟩
end Go.Proofs.YtocpfgdajomjiaaDoor.Range2
/- line.Scan: the iterator. -/
namespace Go.Proofs.YtocpfgdajomjiaaDoor.Hand
open Go.RowKit Go.Shelf Go.Proofs.YtocpfgdajomjiaaDoorW.PrintWords Go.Proofs.YtocpfgdajomjiaaDoor.Range2
attribute [local go_sem] Oper.semAt_some
set_option linter.unusedVariables false
set_option linter.unusedSimpArgs false
/-- The lists of lines that a text begins with, each with where its line ends. -/
def scanG (tot : Nat) : Nat → ByteArray → List (List ByteArray × Int)
  | 0, _ => []
  | f + 1, u => if (takeV u).2.2 = 0 then ((takeV u).1, (tot : Int) - ((takeV u).2.1.size : Int)) :: scanG tot f (takeV u).2.1 else []
def scanP (s : ByteArray) : List (List ByteArray × Int) := scanG s.size (s.size + 1) s
def lastE (l : List (List ByteArray × Int)) : Int := (l.getLast?.map (·.2)).getD 0
theorem take_rest {u : ByteArray} (h : (takeV u).2.2 = 0) : (takeV u).2.1.size < u.size := by
  have hspec := (cut_one 10 u.data.toList).2
  have hul : u.data.toList.length = u.size := by rw [Array.length_toList]; rfl
  unfold takeV at h ⊢
  rcases hspec with ⟨hf, hu⟩ | ⟨hf, hu⟩
  · rw [hf, if_neg (by decide)] at h ⊢
    have hr : ∀ a r : ByteArray, (takeB a r).2.2 = 0 → (takeB a r).2.1 = r := by
      intro a r
      unfold takeB
      split
      · intro h; exact absurd h (by decide)
      · split
        · intro h; exact absurd h (by decide)
        · split
          · intro h; exact absurd h (by decide)
          · split
            · intro _; rfl
            · intro h; exact absurd h (by decide)
    rw [hr _ _ h]
    show (Lib.cut u.data.toList [10]).2.1.toArray.size < u.size
    have := congrArg List.length hu
    rw [hul, List.length_append, List.length_cons] at this
    rw [List.size_toArray]
    omega
  · rw [hf, if_pos rfl] at h
    exact absurd h (by decide)
theorem take_code (u : ByteArray) : 0 ≤ (takeV u).2.2 ∧ (takeV u).2.2 ≤ 14 := by
  unfold takeV
  split
  · decide
  · unfold takeB
    split
    · decide
    · split
      · decide
      · split
        · decide
        · split
          · exact ⟨Int.le_refl _, by show (0 : Int) ≤ 14; decide⟩
          · decide
/-- What the iterator hands to the body: a list in blocks from b on, and where its line ends. -/
def LArg (b : Nat) (x : List ByteArray × Int) (vs : Array Value) (W : World) : Prop := ∃ v, vs = #[v, .int .i64 x.2] ∧ Kd.R Kd.string 9 W b (fun _ => True) v x.1
set_option maxHeartbeats 4000000 in
set_option maxRecDepth 100000 in
theorem scan1_in (l Bn n₀ : Nat) (xs : List (List ByteArray × Int)) (J : List (List ByteArray × Int) → World → Prop) (s : ByteArray) (hs : s.size ≤ 100000) (W wb : World) (hxs : scanP s = xs) (hGb : Hand2.Glob wb) (hwb : wb.heap.size ≤ n₀)
    (hY : ∀ pre x vs W0 W1, J pre W0 → n₀ ≤ W0.heap.size → Bn < W0.heap.size → Below W0.heap.size W0 W1 → LArg W0.heap.size x vs W1 → (∃ t, pre ++ x :: t = xs) → YieldAt Fence.wide (3 - 1) Tryd.prog l vs W1 fun e W' => e = .returned (.bool true) ∧ J (pre ++ [x]) W' ∧ Kp n₀ Bn W1 W')
    (hn0 : n₀ ≤ W.heap.size) (hbw : Below wb.heap.size wb W) (hBn : W.heap[Bn]? = some (.cells #[.string s] 9 (0, 0))) (h0 : J [] W) :
    CallsIn Fence.wide 3 Tryd.prog 94 #[.func (.yield l) #[] #[], .pointer (some ⟨Bn, 0, none⟩)] W fun e W' => (∃ v, e = .returned v) ∧ ∃ W0, J xs W0 ∧ Below W0.heap.size W0 W' := by
  have HY := Lib.hid hY
  have H0 := Lib.hid h0
  have HX := Lib.hid hxs
  have HGB := Lib.hid hGb
  have HBW := Lib.hid hbw
  have HB := Lib.hid hBn
  have hcB : W.cell? ⟨Bn, 0, none⟩ = some (.string s) := Boxed.cell hBn
  clear hY h0 hxs hGb hbw hBn
  refine callsIn_of_wp Tryd.func94 rfl trivial ?_ rfl
  simp only [Tryd.ntmps94, List.size_toArray, List.length_cons, List.length_nil, Nat.reduceAdd, Nat.reduceSub, Array.replicate_succ, Array.replicate_zero, List.push_toArray, List.append_toArray, List.nil_append, List.cons_append]
  gi_wp2
  clear hcB
  gi_loopw [3] (fun left wr => ∃ (pre : List (List ByteArray × Int)) (u : ByteArray) (W0 : World), left = .string u ∧ u.size ≤ s.size ∧ Hid (J pre W0) ∧ Hid (Below W0.heap.size W0 wr) ∧ n₀ ≤ W0.heap.size ∧ Bn < W0.heap.size ∧ Hid (∃ f, u.size < f ∧ pre ++ scanG s.size f u = xs) ∧ Hid (wr.heap[Bn]? = some (.cells #[.string s] 9 (0, 0))) ∧ Hid (Below wb.heap.size wb wr))
    (fun left wr => sizeOf' left)
  case atStart => exact ⟨[], s, W, rfl, Nat.le_refl _, H0, Below.refl _ _, hn0, Boxed.lt HB.out, ⟨s.size + 1, by omega, by simpa [scanP] using HX.out⟩, HB, HBW⟩
  case round =>
    obtain ⟨pre, u, W0, rfl, hus, hJ, hbw0, hn00, hBn0, hf, hbx, hbb⟩ := hrel
    have hGr := HGB.out.below hbb.out
    have HT := Lib.hid (take_walk u (by omega) wr hGr)
    clear hGr
    have hcode := take_code u
    have hrest : Hid ((takeV u).2.2 = 0 → (takeV u).2.1.size < u.size) := take_rest
    have hsc : Hid (∀ f, scanG s.size (f + 1) u = if (takeV u).2.2 = 0 then ((takeV u).1, (s.size : Int) - ((takeV u).2.1.size : Int)) :: scanG s.size f (takeV u).2.1 else []) := fun f => rfl
    generalize takeV u = p at HT hcode hrest hsc
    obtain ⟨ls, rest, c⟩ := p
    simp only at hcode
    by_cases hc : c = 0
    · subst hc
      have hlt := hrest.out rfl
      have hlt : Hid (rest.size < u.size) := hlt
      have hfx : Hid (∃ f, rest.size < f ∧ (pre ++ [(ls, (s.size : Int) - (rest.size : Int))]) ++ scanG s.size f rest = xs) := by
        obtain ⟨f, h1, h2⟩ := hf.out
        cases f with
        | zero => omega
        | succ f =>
          refine ⟨f, by have := hlt.out; omega, ?_⟩
          rw [hsc.out] at h2
          rw [← h2]
          simp
      have hrs : rest.size ≤ s.size := by have := hlt.out; omega
      clear hcode hrest hsc
      gi_wp2_with (refine ⟨trivial, ?_⟩; gi_at_call 42; refine (callsIn_wide.2 HT.out).mono ?_)
      rintro e w1 ⟨v, rfl, hR, hb⟩
      have hbx1 : w1.heap[Bn]? = some (.cells #[.string s] 9 (0, 0)) := (hb.block _ (Boxed.lt hbx.out)).trans hbx.out
      have hc1 : w1.cell? ⟨Bn, 0, none⟩ = some (.string s) := Boxed.cell hbx1
      have hb01 := hbw0.out.trans (hb.mono hbw0.out.size)
      have hbb1 := Lib.hid (hbb.out.trans (hb.mono hbb.out.size))
      have hA : LArg W0.heap.size (ls, (s.size : Int) - (rest.size : Int)) #[v, .int .i64 ((s.size : Int) - (rest.size : Int))] w1 := ⟨v, rfl, Kd.R_lower hR hbw0.out.size⟩
      have hyy := HY.out pre (ls, (s.size : Int) - (rest.size : Int)) _ W0 w1 hJ.out hn00 hBn0 hb01 hA (by
        obtain ⟨f, -, h2⟩ := hfx.out
        exact ⟨scanG s.size f rest, by rw [← h2]; simp⟩)
      obtain ⟨fn, tmps, assign, body, hy, hRd⟩ := hyy
      have HBX1 := Lib.hid hbx1
      have hb01s := hb01.size
      clear hbx1 hb01 hA hb hR
      gi_wp2
      refine hRd.mono ?_
      rintro e W3 ⟨rfl, hJ3, hk3⟩
      have hJ4 := Lib.hid hJ3
      have hbx3 := Lib.hid ((hk3.box (Boxed.lt HBX1.out)).trans HBX1.out)
      have hn3 : n₀ ≤ W3.heap.size := Nat.le_trans (Nat.le_trans hn00 hb01s) hk3.below.size
      have hbb3 := Lib.hid (hbb1.out.trans (hk3.below.mono hwb))
      clear hJ3 hk3 hy hRd
      gi_wp2
      go_roundw
      case rel => exact ⟨pre ++ [(ls, (s.size : Int) - (rest.size : Int))], rest, W3, rfl, hrs, hJ4, Below.refl _ _, hn3, Boxed.lt hbx3.out, hfx, hbx3, hbb3⟩
      case measure => exact hlt.out
    · have hcn : (c == 0) = false := by simpa using hc
      have hcm : (c != 0) = true := by simpa using hc
      have hfin : Hid (xs = pre) := by
        obtain ⟨f, h1, h2⟩ := hf.out
        cases f with
        | zero => omega
        | succ f =>
          rw [hsc.out, if_neg hc, List.append_nil] at h2
          exact h2.symm
      clear hrest hsc
      gi_wp2_with (refine ⟨trivial, ?_⟩; gi_at_call 42; refine (callsIn_wide.2 HT.out).mono ?_)
      rintro e w1 ⟨v, rfl, hR, hb⟩
      have hb01 := Lib.hid (hbw0.out.trans (hb.mono hbw0.out.size))
      clear hR hb
      gi_wp2
      refine ⟨(fun f h => by cases h), ?_⟩
      gi_wp2
      exact bodyPost_ret (v := .tuple #[]) (by simp [results, Tryd.results94, go_sem]) rfl ⟨⟨_, rfl⟩, W0, by rw [hfin.out]; exact hJ.out, hb01.out⟩
/-- lines$1 gives the lists. -/
theorem scan_gives (Bn n₀ : Nat) (s : ByteArray) (hs : s.size ≤ 100000) (w wb : World) (hGb : Hand2.Glob wb) (hwb : wb.heap.size ≤ n₀) (hn0 : n₀ ≤ w.heap.size) (hbw : Below wb.heap.size wb w) (hBn : w.heap[Bn]? = some (.cells #[.string s] 9 (0, 0))) :
    Gives Fence.wide 3 Tryd.prog 94 #[.pointer (some ⟨Bn, 0, none⟩)] LArg n₀ Bn (scanP s) w := by
  intro l J W hb hY h0
  exact scan1_in l Bn n₀ _ J s hs W wb rfl hGb hwb hY (Nat.le_trans hn0 hb.size) (hbw.trans (hb.mono hbw.size)) ((hb.block _ (Boxed.lt hBn)).trans hBn) h0
theorem linesP_mk (s : ByteArray) (w : World) : Calls Tryd.prog 72 #[.string s] w fun e w' => e = .returned (.func (.func 94) #[] #[.pointer (some ⟨w.heap.size, 0, none⟩)]) ∧ w' = w.alloc (.cells #[.string s] 9) := by
  go_enter Tryd.func72, Tryd.ntmps72
  go_wp2
  go_ret
  exact ⟨rfl, rfl⟩
theorem enters94 (args : Array Value) (w : World) : (callFunc 94 args).run Tryd.prog w = .ok (.enter 94 args) w := enters_of Tryd.func94 (by kernel_rfl) rfl args w
end Go.Proofs.YtocpfgdajomjiaaDoor.Hand
/- line.Scan. -/
namespace Go.Proofs.YtocpfgdajomjiaaDoor.Hand
open Go.RowKit Go.Shelf Go.Proofs.YtocpfgdajomjiaaDoorW.PrintWords Go.Proofs.YtocpfgdajomjiaaDoor.Range2
attribute [local go_sem] Oper.semAt_some
set_option linter.unusedVariables false
set_option linter.unusedSimpArgs false
abbrev kLL : Kd (List ByteArray) := Kd.slice 9 Kd.string
theorem info23 : (Tryd.prog.info? 23).map (fun i => (i.zero, i.size, i.bytes)) = some (some (.slice none 0 0), 1, 24) := by kernel_rfl
theorem S_other {W W' : World} {b : Nat} {ok : Nat → Prop} {v : Value} {xs : List (List ByteArray)} (h : Kd.S kLL 23 W b ok v xs) {B : Nat} (hB : ∀ cells q, W.heap[B]? = some (.cells cells q (0, 0)) → q ≠ 23 ∧ q ≠ 9)
    (hblk : ∀ k, k ≠ B → k < W.heap.size → W'.heap[k]? = W.heap[k]?) : Kd.S kLL 23 W' b ok v xs := by
  refine Kd.S_mono (Kd.S_step (Kd.S_bound h) ?_) (fun k hk => hk.1)
  rintro k ⟨-, -, hlt, q, hq, cells, hc⟩ -
  refine hblk k ?_ hlt
  rintro rfl
  have h2 := hB cells q hc
  have hq' : q = 23 ∨ q = 9 := by
    have : q ∈ [23, 9] := hq
    simpa using this
  rcases hq' with e | e
  · exact h2.1 e
  · exact h2.2 e
theorem S_boxed {W : World} {b : Nat} {ok : Nat → Prop} {v : Value} {xs : List (List ByteArray)} (h : Kd.S kLL 23 W b ok v xs) {B t : Nat} {x u : Value} (hB : Boxed W B t x) (h1 : t ≠ 23) (h2 : t ≠ 9) : Kd.S kLL 23 (W.setCell ⟨B, 0, none⟩ u) b ok v xs := by
  refine S_other h (B := B) (fun cells q hc => ?_) (fun k hk _ => Below.heap_setCell _ _ _ _ (fun e => hk (by first | exact e | exact e.symm)))
  have hB' : W.heap[B]? = some (.cells #[x] t (0, 0)) := hB
  rw [hB'] at hc
  injection hc with hc
  injection hc with _ hc _
  subst hc
  exact ⟨h1, h2⟩
theorem S_put {W : World} {b : Nat} {ok : Nat → Prop} {v : Value} {xs : List (List ByteArray)} (h : Kd.S kLL 23 W b ok v xs) {l : Nat} {o : Obj} (o' : Obj) (hl : W.heap[l]? = some o) (ho : Obj.isCells o = false) : Kd.S kLL 23 (W.putObj l o') b ok v xs := by
  refine S_other h (B := l) (fun cells q hc => ?_) (fun k hk _ => World.putObj_heap_other hk)
  rw [hl] at hc
  injection hc with hc
  subst hc
  cases ho
theorem boxed_put {W : World} {B t l : Nat} {x : Value} {o : Obj} (o' : Obj) (h : Boxed W B t x) (hl : W.heap[l]? = some o) (ho : Obj.isCells o = false) : Boxed (W.putObj l o') B t x := by
  have hne : B ≠ l := by
    rintro rfl
    have hB' : W.heap[B]? = some (.cells #[x] t (0, 0)) := h
    rw [hB'] at hl
    injection hl with hl
    subst hl
    cases ho
  exact (World.putObj_heap_other hne).trans h
theorem boxed_below {W W' : World} {B t : Nat} {x : Value} (h : Boxed W B t x) (hb : Below W.heap.size W W') : Boxed W' B t x := (hb.block _ h.lt).trans h
/-- What the loop over the lines keeps: the lists (box b), the last end (box b + 1). -/
def SInv (b : Nat) (s : ByteArray) (wb : World) (pre : List (List ByteArray × Int)) (W : World) : Prop :=
  (∃ v, Boxed W b 41 v ∧ Kd.S kLL 23 W b (fun _ => True) v (pre.map (·.1))) ∧ Boxed W (b + 1) 3 (.int .i64 (lastE pre)) ∧ Boxed W (b + 1 + 1) 9 (.string s) ∧ Below b wb W
theorem SInv.below {b : Nat} {s : ByteArray} {wb : World} {pre : List (List ByteArray × Int)} {W W' : World} (h : SInv b s wb pre W) (hb : Below W.heap.size W W') : SInv b s wb pre W' := by
  obtain ⟨⟨v, h1, h2⟩, h3, h5, h4⟩ := h
  exact ⟨⟨v, boxed_below h1 hb, Kd.S_below h2 hb⟩, boxed_below h3 hb, boxed_below h5 hb, h4.trans (hb.mono (by have := h1.lt; omega))⟩
theorem SInv.put {b : Nat} {s : ByteArray} {wb : World} {pre : List (List ByteArray × Int)} {W : World} (h : SInv b s wb pre W) (l : Nat) (o o' : Obj) (hl0 : b ≤ l) (hl : W.heap[l]? = some o) (ho : Obj.isCells o = false) : SInv b s wb pre (W.putObj l o') := by
  obtain ⟨⟨v, h1, h2⟩, h3, h5, h4⟩ := h
  refine ⟨⟨v, boxed_put o' h1 hl ho, S_put h2 o' hl ho⟩, boxed_put o' h3 hl ho, boxed_put o' h5 hl ho, h4.trans ?_⟩
  exact (Below.refl _ W).grown (grownBy_putObj' W _ _) (by have := h1.lt; omega) (fun k e => by cases e; omega)
theorem LArg_put {b : Nat} {x : List ByteArray × Int} {vs : Array Value} {W : World} {l : Nat} {o' : Obj} (h : LArg b x vs W) (hl : l < b) : LArg b x vs (W.putObj l o') := by
  obtain ⟨v, rfl, h⟩ := h
  refine ⟨v, rfl, Kd.R_mono (Kd.R_step (Kd.R_bound h) ?_) (fun _ hk => hk.1)⟩
  rintro k ⟨-, hb, -, -⟩ -
  exact World.putObj_heap_other (by omega)
theorem lastE_snoc (pre : List (List ByteArray × Int)) (x : List ByteArray × Int) : lastE (pre ++ [x]) = x.2 := by simp [lastE]
def scanV (s : ByteArray) : List (List ByteArray) × Int := ((scanP s).map (·.1), lastE (scanP s))
theorem scanG_len (tot : Nat) : ∀ (f : Nat) (u : ByteArray), (scanG tot f u).length ≤ f := by
  intro f
  induction f with
  | zero => intro u; exact Nat.le_refl _
  | succ f ih =>
    intro u
    rw [scanG]
    split
    · rw [List.length_cons]
      have := ih (takeV u).2.1
      omega
    · exact Nat.zero_le _
set_option maxHeartbeats 4000000 in
set_option maxRecDepth 100000 in
theorem scan_walk (s : ByteArray) (hs : s.size ≤ 100000) (w : World) (hG : Hand2.Glob w) :
    Calls Tryd.prog 44 #[.string s] w fun e w' => ∃ v, e = .returned (.tuple #[v, .int .i64 (scanV s).2]) ∧ Kd.S kLL 23 w' w.heap.size (fun _ => True) v (scanV s).1 ∧ Below w.heap.size w w' := by
  have HG := Lib.hid hG
  have hlen : (scanP s).length ≤ 100001 := Nat.le_trans (scanG_len _ _ _) (by omega)
  clear hG
  refine (callsIn_wide (n := 4)).1 ?_
  refine callsIn_of_wp_marks Tryd.func44 rfl trivial ?_ rfl
  simp only [Tryd.ntmps44, List.size_toArray, List.length_cons, List.length_nil, Nat.reduceAdd, Nat.reduceSub, Array.replicate_succ, Array.replicate_zero, List.push_toArray, List.append_toArray, List.nil_append, List.cons_append]
  gi_wp2_with (refine ⟨trivial, ?_⟩; gi_at_call 72; refine (callsIn_wide.2 (linesP_mk s _)).mono ?_; rintro e w' ⟨rfl, rfl⟩)
  have hsz : (((w.alloc (.cells #[.slice none 0 0] 41)).alloc (.cells #[.int .i64 0] 3)).alloc (.cells #[.string s] 9)).heap.size = w.heap.size + 3 := by simp
  have hbel : Below w.heap.size w (((w.alloc (.cells #[.slice none 0 0] 41)).alloc (.cells #[.int .i64 0] 3)).alloc (.cells #[.string s] 9)) :=
    (((Below.refl _ _).alloc (Nat.le_refl _) _).alloc (by simp) _).alloc (by simp; omega) _
  have hx0 : Boxed (((w.alloc (.cells #[.slice none 0 0] 41)).alloc (.cells #[.int .i64 0] 3)).alloc (.cells #[.string s] 9)) w.heap.size 41 (.slice none 0 0) := ((Boxed.new w 41 _).alloc _).alloc _
  have hx1 : Boxed (((w.alloc (.cells #[.slice none 0 0] 41)).alloc (.cells #[.int .i64 0] 3)).alloc (.cells #[.string s] 9)) (w.heap.size + 1) 3 (.int .i64 0) := by
    have := (Boxed.new (w.alloc (.cells #[.slice none 0 0] 41)) 3 (.int .i64 0)).alloc (.cells #[.string s] 9)
    simpa using this
  have hx2 : Boxed (((w.alloc (.cells #[.slice none 0 0] 41)).alloc (.cells #[.int .i64 0] 3)).alloc (.cells #[.string s] 9)) (w.heap.size + 1 + 1) 9 (.string s) := by
    have := Boxed.new ((w.alloc (.cells #[.slice none 0 0] 41)).alloc (.cells #[.int .i64 0] 3)) 9 (.string s)
    simpa using this
  generalize ((w.alloc (.cells #[.slice none 0 0] 41)).alloc (.cells #[.int .i64 0] 3)).alloc (.cells #[.string s] 9) = W1 at hsz hbel hx0 hx1 hx2 ⊢
  have HX0 := Lib.hid hx0
  have HX1 := Lib.hid hx1
  have HX2 := Lib.hid hx2
  have HBEL := Lib.hid hbel
  clear hx0 hx1 hx2 hbel
  refine loop_all (xs := scanP s) rfl (by omega) (gf := 94) (lb := #[.pointer (some ⟨w.heap.size + 1 + 1, 0, none⟩)]) rfl trivial enters94 (scan_gives (w.heap.size + 1 + 1) w.heap.size s hs W1 w HG.out (Nat.le_refl _) (by omega) HBEL.out HX2.out) (Below.refl _ _) (by omega) (by omega)
    (fun b x vs W h => by obtain ⟨v, rfl, -⟩ := h; rfl) (fun b x vs W l o' h hl => LArg_put h hl) (SInv w.heap.size s w) (fun _ _ _ h hb => h.below hb) (fun _ _ l o o' h hl ho hc => h.put l o o' (by omega) ho hc)
    ⟨⟨_, HX0.out, Kd.S_nil _ _ _ _ _⟩, HX1.out, HX2.out, HBEL.out⟩
    (fun vs => { tmps := #[.string s, undef, .slice none 0 0, .int .i64 0, .pointer (some ⟨w.heap.size, 0, none⟩), .pointer (some ⟨w.heap.size + 1, 0, none⟩), vs.getD 0 undef, vs.getD 1 undef, .string s,
      .func (.func 94) #[] #[.pointer (some ⟨w.heap.size + 1 + 1, 0, none⟩)], vs.getD 0 undef, vs.getD 1 undef, undef, undef, undef, undef, undef, undef, undef], defers := [] }) ?assign ?body ?done
  case assign =>
    rintro l b x vs W K ⟨v, rfl, hR⟩ hK
    gi_wp2
    exact hK
  case body =>
    rintro l pre x vs W0 W ⟨⟨va, hva0, hS0⟩, hat0, hbs0, hbw0⟩ hn0 hBn0 hb01 ⟨v, rfl, hR⟩ ⟨t, ht⟩
    obtain ⟨Ao, co, ev⟩ := Kd.R_slice hR
    obtain ⟨xn, hxn⟩ : ∃ xn, xn = x.1.length := ⟨_, rfl⟩
    rw [← hxn] at ev
    clear hxn
    subst ev
    have hpl : pre.length + 1 ≤ 100001 := by
      have := congrArg List.length ht
      simp only [List.length_append, List.length_cons] at this
      omega
    have hva := boxed_below hva0 hb01
    have hat := boxed_below hat0 hb01
    have hS : Kd.S kLL 23 W w.heap.size (fun k => True ∧ ¬ W0.heap.size ≤ k) va (pre.map (·.1)) := Kd.S_below (Kd.S_mono (Kd.S_bound hS0) (fun k hk => ⟨trivial, Nat.not_le.2 hk.2.2.1⟩)) hb01
    have hvo : ∀ k, va.ownBlock = some k → k < W0.heap.size := by
      obtain ⟨f, h0, -⟩ := hS
      exact fun k hk => Nat.not_le.1 (h0 k hk).2
    obtain ⟨f, hf, hTR⟩ := Kd.S_tag hS (pre.map (·.1)).length (fun k => W0.heap.size ≤ k) (fun k hk h2 => h2.2 hk)
    obtain ⟨h0, inner, hown, hr⟩ := Kd.R_mono hTR (fun _ h => h.1)
    have hp : kLL.M W w.heap.size (fun k => W0.heap.size ≤ k) x.1 [.slice Ao xn co] := ⟨_, rfl, Kd.R_lower (Kd.R_mono (Kd.R_bound hR) (fun k hk => hk.2.1)) hn0⟩
    have hn : (pre.map (·.1)).zipIdx.length = pre.length := by rw [List.length_zipIdx, List.length_map]
    rw [hn] at hown
    have hnr1 := hva.not_row (by decide) hown
    have hnr2 := hat.not_row (by decide) hown
    have hbs := boxed_below hbs0 hb01
    have HN3 := Lib.hid (hbs.not_row (by decide) hown)
    have HBS := Lib.hid hbs
    have HVA := Lib.hid hva
    have HAT := Lib.hid hat
    have hcv := hva.cell
    have hsz01 := hb01.size
    have HS := Lib.hid hS
    have HVO := Lib.hid hvo
    have HF := Lib.hid hf
    have HH0 := Lib.hid h0
    have HRR := Lib.hid hr
    have HOWN := Lib.hid hown
    have HP := Lib.hid hp
    have HN1 := Lib.hid hnr1
    have HN2 := Lib.hid hnr2
    have HHN := Lib.hid hn
    have HB01 := Lib.hid hb01
    have HBW := Lib.hid (hbw0.trans (hb01.mono hn0))
    clear hbs0 hbs hva0 hS0 hat0 hbw0 hR ht hva hat hS hvo hTR h0 hr hown hp hn hnr1 hnr2 hf hb01
    obtain ⟨i0, hi, hz0, hz1, hz2⟩ := info_parts info23
    gi_wp2_with (gi_at_builtin; refine wpListIn_append_own_at _ rfl _ _ 41 rfl w.heap.size 23 i0 (.slice none 0 0) 1 24 Tryd.underlying41 hi hz0 hz1 hz2 rfl (by decide) va pre.length inner rfl (HOWN.out.alloc _) ⟨W.heap.size, 0, none⟩ 1 1 [.slice Ao xn co] rfl rfl (cell_one_new _ _ _) (by simp [Value.oneCell']) (by unfold maxLen; omega) (by omega) (by simp; omega) ?_)
    intro v' w2 hown' hgrow hat'
    obtain ⟨g', cap', ev'⟩ := ownsRow_succ hown'
    subst ev'
    have hg : W.grownBy w2 va.ownBlock := World.grownBy.trans (World.grownBy_alloc W _ _) hgrow
    have hat'' : (Value.slice (some ⟨g', 0, none⟩) (pre.length + 1) cap').ownBlock = va.ownBlock ∨ ∃ b, (Value.slice (some ⟨g', 0, none⟩) (pre.length + 1) cap').ownBlock = some b ∧ W.heap.size ≤ b := by
      rcases hat' with h | h
      · exact .inl h
      · exact .inr ⟨_, h, by simp⟩
    have hR2 := Kd.R_appended (d := Kd.tag f kLL) (p := (x.1, (pre.map (·.1)).length)) HH0.out HRR.out (kLL.M_mono (fun k hk => ⟨hk, HF.out k hk⟩) HP.out) (fun k hk => ⟨trivial, fun e => Nat.lt_irrefl _ (Nat.lt_of_lt_of_le (HVO.out k e.symm) hk)⟩) (fun _ _ => trivial) (by rw [HHN.out]; exact hown') hg hat''
    rw [← Kd.zip_snoc] at hR2
    have hS2 : Kd.S kLL 23 w2 w.heap.size (fun _ => True) (.slice (some ⟨g', 0, none⟩) (pre.length + 1) cap') ((pre ++ [x]).map (·.1)) := ⟨f, by rw [List.map_append]; exact hR2⟩
    have hva2 := HVA.out.kept hg HN1.out
    have hat2 := HAT.out.kept hg HN2.out
    have hat3 : Boxed (w2.setCell ⟨w.heap.size, 0, none⟩ (.slice (some ⟨g', 0, none⟩) (pre.length + 1) cap')) (w.heap.size + 1) 3 (.int .i64 (lastE pre)) := hat2.kept (grownBy_setCell' w2 w.heap.size (.slice (some ⟨g', 0, none⟩) (pre.length + 1) cap')) (by simp)
    have hva3 := hva2.set (.slice (some ⟨g', 0, none⟩) (pre.length + 1) cap')
    have hS3 := S_boxed (u := (.slice (some ⟨g', 0, none⟩) (pre.length + 1) cap')) hS2 hva2 (by decide) (by decide)
    have hS4 := Lib.hid (S_boxed (u := .int .i64 x.2) hS3 hat3 (by decide) (by decide))
    have hva4 := Lib.hid (hva3.kept (grownBy_setCell' _ (w.heap.size + 1) (.int .i64 x.2)) (by simp))
    have hat4 := Lib.hid (hat3.set (.int .i64 x.2))
    have hrowc : ∀ (j : Nat) (o : Obj), va.ownBlock = some j → W.heap[j]? = some o → o.isCells = true := by
      intro j o ej hj
      rcases HOWN.out.2 with ⟨rfl, _⟩ | ⟨g, cap, cur, rfl, _, hgb, _⟩
      · simp [Value.ownBlock] at ej
      · obtain rfl : g = j := by simpa [Value.ownBlock] using ej
        rw [hgb] at hj; cases hj; rfl
    have hrowb : ∀ j, va.ownBlock = some j → w.heap.size ≤ j := by
      intro j ej
      rcases HOWN.out.2 with ⟨rfl, _⟩ | ⟨g, cap, cur, rfl, hgb, _⟩
      · simp [Value.ownBlock] at ej
      · obtain rfl : g = j := by simpa [Value.ownBlock] using ej
        exact hgb
    have hKO := Lib.hid (((KeepsOthers.of_grownBy hg hrowc).trans (KeepsOthers.setCell w2 ⟨w.heap.size, 0, none⟩ (.slice (some ⟨g', 0, none⟩) (pre.length + 1) cap'))).trans (KeepsOthers.setCell _ ⟨w.heap.size + 1, 0, none⟩ (.int .i64 x.2)))
    have hlow := Lib.hid ((((Below.refl w.heap.size W).grown hg (by omega) hrowb).setCell (p := ⟨w.heap.size, 0, none⟩) (Nat.le_refl _) (.slice (some ⟨g', 0, none⟩) (pre.length + 1) cap')).setCell (p := ⟨w.heap.size + 1, 0, none⟩) (Nat.le_succ _) (.int .i64 x.2))
    have hc1 := hva2.cell
    have hf1 := hva2.frozen
    have hc2 := hat3.cell
    have hf2 := hat3.frozen
    have hbs2 := Lib.hid (((HBS.out.kept hg HN3.out).kept (grownBy_setCell' w2 w.heap.size (.slice (some ⟨g', 0, none⟩) (pre.length + 1) cap')) (by intro e; injection e with e; omega)).kept (grownBy_setCell' _ (w.heap.size + 1) (.int .i64 x.2)) (by intro e; injection e with e; omega))
    have hgs := Lib.hid hg
    clear hown' hgrow hat' hg hat'' hR2 hS2 hva2 hat2 hat3 hva3 hS3 hrowc hrowb hcv
    gi_wp2
    refine ⟨hKO.out.from _, ⟨hlow.out, fun hlt => ?_⟩, ⟨⟨_, hva4.out, hS4.out⟩, by rw [lastE_snoc]; exact hat4.out, hbs2.out, HBW.out.trans hlow.out⟩⟩
    have h1 : W.heap[w.heap.size + 1 + 1]? = some (.cells #[.string s] 9 (0, 0)) := HBS.out
    rw [h1]
    exact hbs2.out
  case done =>
    rintro D W hD ⟨⟨v, hv, hS⟩, hat, hbs, hb⟩ hK
    obtain ⟨Ao, co, ev⟩ := Kd.R_slice (Kd.S_R hS)
    obtain ⟨xn, hxn⟩ : ∃ xn, xn = ((scanP s).map (·.1)).length := ⟨_, rfl⟩
    rw [← hxn] at ev
    clear hxn
    subst ev
    have hc := hv.cell
    have hc2 := hat.cell
    have hlt := hv.lt
    have HS := Lib.hid hS
    have HBb := Lib.hid hb
    have HK := Lib.hid hK
    obtain ⟨le, hle⟩ : ∃ le, Hid (lastE (scanP s) = le) := ⟨_, Lib.hid rfl⟩
    rw [hle.out] at hc2
    clear hv hat hbs hS hb hK
    gi_wp2
    gi_region
    all_goals gi_wp2
    have hK2 : W.drew.heap[D]? = some (.deferred (some [])) := HK.out
    have hS2 := Kd.S_below HS.out (show Below W.heap.size W W.drew from (Below.refl _ _).drew)
    have hB2 : Below w.heap.size w W.drew := HBb.out.drew
    refine ⟨by simp, .inl ⟨_, _, rfl, run_takeDeferred hK2, ?_⟩⟩
    rw [show (scanV s).2 = le from hle.out]
    refine ⟨_, results_tmp2 (fn := Tryd.f44) rfl _ _ _, _, rfl, S_put hS2 _ hK2 rfl, ?_⟩
    exact hB2.trans ((Below.refl _ _).grown (grownBy_putObj' _ _ _) (by simp; omega) (fun k e => by cases e; omega))
end Go.Proofs.YtocpfgdajomjiaaDoor.Hand
