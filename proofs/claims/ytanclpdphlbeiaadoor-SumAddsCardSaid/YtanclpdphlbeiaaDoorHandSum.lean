import Derived.Test.YtanclpdphlbeiaaDoorProg
import Derived.WalkKit
import Derived.Lib.ConvBytes
import Derived.Outline
import Derived.Lib.Hide
import Derived.Deep.QuietTactic
import Derived.BigQuiet
namespace Go.Proofs.YtanclpdphlbeiaaDoor.Hand
open Go.RowKit
set_option linter.unusedVariables false
set_option linter.unusedSimpArgs false

/-- One byte more: A, then B. -/
def adlStep (p : Nat × Nat) (c : UInt8) : Nat × Nat := ((p.1 + c.toNat) % 65521, (p.2 + (p.1 + c.toNat) % 65521) % 65521)
def adl (p : Nat × Nat) (l : List UInt8) : Nat × Nat := l.foldl adlStep p
def adlStart (n : Nat) : Nat × Nat := (n % 65536 % 65521, n / 65536 % 65521)
def adlSum (p : Nat × Nat) : Nat := p.2 * 65536 + p.1

theorem adl_lt (l : List UInt8) : ∀ (p : Nat × Nat), p.1 < 65521 → p.2 < 65521 → (adl p l).1 < 65521 ∧ (adl p l).2 < 65521 := by
  induction l with
  | nil => intro p h1 h2; exact ⟨h1, h2⟩
  | cons c l ih => intro p h1 h2; exact ih _ (Nat.mod_lt _ (by decide)) (Nat.mod_lt _ (by decide))
theorem adl_snoc (p : Nat × Nat) (l : List UInt8) (c : UInt8) : adl p (l ++ [c]) = adlStep (adl p l) c := by
  simp [adl, List.foldl_append]
theorem adlStart_lt (n : Nat) : (adlStart n).1 < 65521 ∧ (adlStart n).2 < 65521 := ⟨Nat.mod_lt _ (by decide), Nat.mod_lt _ (by decide)⟩

theorem and65535 (n : Nat) (h : n < 4294967296) : bits .and .u32 (n : Int) 65535 = ((n % 65536 : Nat) : Int) := by
  have := u32_and_nat n 65535 h (by decide)
  rw [nat_mask16] at this
  exact this
theorem orShift (a b : Nat) (ha : a < 65521) (hb : b < 65521) : bits .or .u32 ((b : Int) * 65536) (a : Int) = ((b * 65536 + a : Nat) : Int) := by
  have h := u32_or_nat (b * 65536) a (by omega) (by omega)
  rw [nat_join 16 (b * 65536) a (by omega) (by omega)] at h
  simpa using h

theorem below_bytes {B : Nat} {a w : World} (h : Below B a w) (hB : B ≤ w.heap.size) (e : TypeId) (s : ByteArray) : Below B a (Lib.bytesWorld w e s) :=
  h.trans ⟨rfl, rfl, rfl, by rw [Lib.bytesWorld_size]; omega, fun k hk => Lib.bytesWorld_at_old w e s k (by omega)⟩
theorem bytes_frozen_old (w : World) (e : TypeId) (s : ByteArray) (a : Addr) (ha : a.block < w.heap.size) : (Lib.bytesWorld w e s).frozen? a = w.frozen? a :=
  World.frozen?_of_block (Lib.bytesWorld_at_old w e s a.block ha)

set_option maxHeartbeats 800000 in
theorem add_walk (n : Nat) (s : ByteArray) (w : World) (h1 : n < 4294967296) (hs : s.size ≤ 140737488351232) :
    Calls Tryd.prog 9 #[.int .u32 (n : Int), .string s] w fun e w' => e = .returned (.int .u32 ((adlSum (adl (adlStart n) s.data.toList) : Nat) : Int)) ∧ Below w.heap.size w w' := by
  have hcv := fun (W : World) => Lib.run_convert_string_bytes (P := Tryd.prog) W 9 30 5 s Tryd.underlying9 Tryd.underlying30 Tryd.underlying5
  have ha := and65535 n h1
  go_enter Tryd.func9, Tryd.ntmps9
  go_wp2
  clear ha hcv
  go_loopw [7, 18] (fun v7 i wr => ∃ (k : Nat) (a b : Nat), k ≤ s.size ∧ i = .int .i64 k ∧ Hid ((a, b) = adl (adlStart n) (s.data.toList.take k)) ∧ a < 65521 ∧ b < 65521 ∧
      wr.cell? ⟨w.heap.size, 0, none⟩ = some (.int .u32 (a : Int)) ∧ wr.cell? ⟨w.heap.size, 1, none⟩ = some (.int .u32 (b : Int)) ∧
      wr.frozen? ⟨w.heap.size, 0, none⟩ = false ∧ wr.frozen? ⟨w.heap.size, 1, none⟩ = false ∧
      (∀ j, j < s.size → wr.cell? ⟨w.heap.size + 1, j, none⟩ = some (.int .u8 (s.data.toList.getD j 0).toNat)) ∧ Below w.heap.size w wr)
    (fun _ i _ => s.size - (intOf i).toNat)
  case atStart =>
    have hst := adlStart_lt n
    refine ⟨0, (adlStart n).1, (adlStart n).2, Nat.zero_le _, rfl, rfl, hst.1, hst.2, ?_, ?_, ?_, ?_, ?_, ?_⟩
    · rw [Lib.bytesWorld_old _ _ _ _ (by simp)]; simp [adlStart]
    · rw [Lib.bytesWorld_old _ _ _ _ (by simp)]; simp [adlStart]
    · rw [bytes_frozen_old _ _ _ _ (by simp)]; simp
    · rw [bytes_frozen_old _ _ _ _ (by simp)]; simp
    · intro j hj
      have := Lib.bytesWorld_cell (w.alloc (Obj.cells #[Value.int IntKind.u32 (↑n % 65536 % 65521), Value.int IntKind.u32 (↑n / 65536 % 65521)] 34)) 5 s j hj
      simpa using this
    · exact below_bytes ((Below.refl _ _).alloc (Nat.le_refl _) _) (by simp) _ _
  case round =>
    obtain ⟨k, a, b, hk, rfl, hab, la, lb, ca, cb, fa, fb, hcell, hB⟩ := hrel
    by_cases hlt : k < s.size
    · have hc := hcell k hlt
      have hc8 : (s.data.toList.getD k 0).toNat < 256 := UInt8.toNat_lt _
      have hCell : Hid _ := Lib.hid hcell
      clear hcell
      obtain ⟨c, hcv⟩ : ∃ c, Hid ((s.data.toList.getD k 0).toNat = c) := ⟨_, rfl⟩
      rw [hcv.out] at hc hc8
      go_wp2
      go_roundw
      case rel =>
        have hstep : adl (adlStart n) (s.data.toList.take (k + 1)) = ((a + c) % 65521, (b + (a + c) % 65521) % 65521) := by
          have hk' : k < s.data.toList.length := by simpa using hlt
          rw [List.take_succ_eq_append_getElem hk', adl_snoc, ← hab.out, ← hcv.out]
          simp [adlStep, List.getD_eq_getElem?_getD, List.getElem?_eq_getElem hk']
        refine ⟨k + 1, (a + c) % 65521, (b + (a + c) % 65521) % 65521, by omega, by go_num, hstep.symm, Nat.mod_lt _ (by decide), Nat.mod_lt _ (by decide), ?_, ?_, ?_, ?_, ?_, ?_⟩
        · go_simp
        · go_simp
        · simp [fa]
        · simp [fb]
        · intro j hj
          have := hCell.out j hj
          go_simp
        · exact (hB.setCell (p := ⟨w.heap.size, 0, none⟩) (Nat.le_refl _) _).setCell (p := ⟨w.heap.size, 1, none⟩) (Nat.le_refl _) _
      case measure => simp [intOf]; omega
    · have ho := orShift a b la lb
      clear hcell
      go_wp2
      go_ret
      refine ⟨?_, hB⟩
      rw [List.take_of_length_le (by simp; omega)] at hab
      rw [← hab.out]
      rfl
def hexd (n : Nat) : UInt8 := UInt8.ofNat (if n < 10 then 48 + n else 87 + n)
def hexList (n : Nat) : List UInt8 := if h : n < 16 then [hexd n] else hexList (n / 16) ++ [hexd (n % 16)]
decreasing_by omega

theorem hexList_lt {n : Nat} (h : n < 16) : hexList n = [hexd n] := by rw [hexList, dif_pos h]
theorem hexList_ge {n : Nat} (h : 16 ≤ n) : hexList n = hexList (n / 16) ++ [hexd (n % 16)] := by rw [hexList, dif_neg (by omega)]
theorem hexList_pos (n : Nat) : 1 ≤ (hexList n).length := by
  by_cases h : n < 16
  · rw [hexList_lt h]; simp
  · rw [hexList_ge (by omega)]; simp
theorem hexList_len : ∀ (k n : Nat), n < 16 ^ k → 1 ≤ k → (hexList n).length ≤ k := by
  intro k
  induction k with
  | zero => intro n _ h; omega
  | succ k ih =>
    intro n hn _
    by_cases h : n < 16
    · rw [hexList_lt h]; simp
    · rw [hexList_ge (by omega)]
      have hk : 1 ≤ k := by
        rcases Nat.eq_zero_or_pos k with rfl | h'
        · simp at hn; omega
        · exact h'
      have := ih (n / 16) (by rw [Nat.div_lt_iff_lt_mul (by decide)]; rw [Nat.pow_succ] at hn; omega) hk
      simp; omega

set_option maxHeartbeats 400000 in
theorem tz16 (w : World) (hc : w.cell? ⟨2, 15, none⟩ = some (.int .u8 4)) :
    Calls Tryd.prog 27 #[.int .u64 16] w fun e w' => e = .returned (.int .i64 4) ∧ w' = w := by
  have h1 : bits .and .u64 16 (IntKind.u64.wrap (-16)) = 16 := by decide +kernel
  have h2 : IntKind.u64.wrap (16 * 285870213051353865) = 4573923408821661840 := by decide +kernel
  go_enter Tryd.func27, Tryd.ntmps27
  go_wp2
  go_ret
  exact ⟨rfl, rfl⟩
set_option maxHeartbeats 400000 in
theorem tz16' (w : World) (hc : w.cell? ⟨2, 15, none⟩ = some (.int .u8 4)) :
    Calls Tryd.prog 25 #[.int .u64 16] w fun e w' => e = .returned (.int .i64 4) ∧ w' = w := by
  go_enter Tryd.func25, Tryd.ntmps25
  go_wp2_with (go_at_call 27; refine (tz16 _ hc).mono ?_; rintro e w' ⟨rfl, rfl⟩)
  go_ret
  exact ⟨rfl, rfl⟩
set_option maxHeartbeats 400000 in
theorem p216 (w : World) :
    Calls Tryd.prog 24 #[.int .i64 16] w fun e w' => e = .returned (.bool true) ∧ w' = w := by
  have h1 : bits .and .i64 16 15 = 0 := by decide +kernel
  go_enter Tryd.func24, Tryd.ntmps24
  go_wp2
  go_ret
  exact ⟨rfl, rfl⟩
theorem and15 (n : Nat) (h : n < 18446744073709551616) : bits .and .u64 (n : Int) 15 = ((n % 16 : Nat) : Int) := by
  have := u64_and_nat n 15 h (by decide)
  rw [nat_mask4] at this
  exact this

theorem digs_at : ∀ (m : Nat) (h : m < 36), (⟨#[48, 49, 50, 51, 52, 53, 54, 55, 56, 57, 97, 98, 99, 100, 101, 102, 103, 104, 105, 106, 107, 108, 109, 110, 111, 112, 113, 114, 115, 116, 117, 118, 119, 120, 121, 122]⟩ : ByteArray)[m] = hexd m := by decide +kernel
def z65 : Array Value := Array.replicate 65 (.int .u8 0)
theorem sl65 (W : World) (b l : Nat) (h : l < 65) : (Instr.sliceAt 46 (.pointer (some ⟨b, 0, none⟩)) (some (.int .i64 (l : Int))) none none).run Tryd.prog W = .ok (.slice (some ⟨b, l, none⟩) (65 - l) (65 - l)) W := by
  have h1 : Tryd.prog.arrayLen 46 = 65 := by kernel_rfl
  have h2 : Tryd.prog.elem 46 = 5 := by kernel_rfl
  rw [run_sliceAt_array_l W 46 _ (by rw [h1, h2]; exact Tryd.underlying46) _ _ (by omega) (by rw [h1]; omega), h1, h2]
  have h3 : (sizeOf 5).run Tryd.prog W = .ok 1 W := by kernel_rfl
  rw [h3]
  simp [Result.andThen, slicedAt, show ¬ 65 = l by omega, Addr.add]
  intro e; exact e.symm
theorem zero65 (w : World) : (zeroValue 46).run Tryd.prog w = .ok (.agg z65) w := by kernel_rfl
theorem z65_at (w : World) (o : Nat) (h : o < 65) : (w.alloc (.cells z65 46)).cell? ⟨w.heap.size, o, none⟩ = some (.int .u8 0) := by
  simp [z65, h]

set_option maxHeartbeats 1000000 in
theorem formatBits16 (u : Nat) (w : World) (hu : u < 18446744073709551616) (hc : w.cell? ⟨2, 15, none⟩ = some (.int .u8 4)) (hw : 2 < w.heap.size) :
    Calls Tryd.prog 20 #[.slice none 0 0, .int .u64 (u : Int), .int .i64 16, .bool false, .bool false] w fun e w' => e = .returned (.tuple #[.slice none 0 0, .string ⟨(hexList u).toArray⟩]) ∧ Below w.heap.size w w' := by
  have hc1 : (w.alloc (.cells z65 46)).cell? ⟨2, 15, none⟩ = some (.int .u8 4) := by rw [World.cell?_alloc_old _ _ _ (by simp; omega)]; exact hc
  have hz := zero65
  go_enter Tryd.func20, Tryd.ntmps20
  go_wp2_with (first | (go_at_call 24; refine (p216 _).mono ?_; rintro e w' ⟨rfl, rfl⟩) | (go_at_call 25; refine (tz16' _ hc1).mono ?_; rintro e w' ⟨rfl, rfl⟩))
  clear hc1 hz
  have hlen : (hexList u).length ≤ 16 := hexList_len 16 u (by omega) (by omega)
  go_loopw [1, 13] (fun v1 v13 wr => ∃ (v c : Nat) (ds : List UInt8), v1 = .int .u64 (v : Int) ∧ v13 = .int .i64 (c : Int) ∧ v < 18446744073709551616 ∧ c ≤ 65 ∧ Hid (c + ds.length = 65) ∧ Hid (hexList v ++ ds = hexList u) ∧
      Hid (∀ o, o < 65 → ∃ x, wr.cell? ⟨w.heap.size, o, none⟩ = some x) ∧ Hid (∀ o, wr.frozen? ⟨w.heap.size, o, none⟩ = false) ∧
      Hid (∀ j, j < ds.length → wr.cell? ⟨w.heap.size, c + j, none⟩ = some (.int .u8 (ds.getD j 0).toNat)) ∧ Below w.heap.size w wr)
    (fun v1 _ _ => (intOf v1).toNat)
  case atStart =>
    refine ⟨u, 65, [], rfl, rfl, hu, Nat.le_refl _, rfl, by simp [Hid], fun o ho => ⟨_, z65_at w o ho⟩, fun o => by simp, fun j hj => by simp at hj, (Below.refl _ _).alloc (Nat.le_refl _) _⟩
  case round =>
    obtain ⟨v, c, ds, rfl, rfl, hv, hc65, hcd, hds, hcell, hfr, hdc, hB⟩ := hrel
    have hl1 := congrArg List.length hds.out
    rw [List.length_append] at hl1
    have hp := hexList_pos v
    have hcd' := hcd.out
    have hc49 : 49 ≤ c - 1 := by omega
    clear hcd' hl1 hp hlen
    obtain ⟨x, hx⟩ := hcell.out (c - 1) (by omega)
    have hf := hfr.out (c - 1)
    by_cases hge : 16 ≤ v
    · have ha := and15 v hv
      go_wp2
      go_roundw
      case rel =>
        rw [hexList_ge hge] at hds
        refine ⟨v / 16, c - 1, hexd (v % 16) :: ds, by simp, by simp; omega, by omega, by omega, ?_, ?_, ?_, ?_, ?_, ?_⟩
        · have := hcd.out
          show c - 1 + (ds.length + 1) = 65
          omega
        · have := hds.out
          show hexList (v / 16) ++ hexd (v % 16) :: ds = hexList u
          rw [← this]
          simp
        · intro o ho
          by_cases e : o = c - 1
          · subst e
            exact ⟨_, World.cell?_setCell_same _ _ _ hx⟩
          · obtain ⟨y, hy⟩ := hcell.out o ho
            refine ⟨y, ?_⟩
            rw [World.cell?_setCell_other _ _ _ _ (by intro e_; simp at e_ <;> omega)]
            exact hy
        · intro o
          simpa using hfr.out o
        · intro j hj
          rw [digs_at (v % 16) (by omega)]
          cases j with
          | zero => exact World.cell?_setCell_same _ _ _ hx
          | succ j =>
            rw [World.cell?_setCell_other _ _ _ _ (by intro e_; simp at e_ <;> omega)]
            have := hdc.out j (by simpa using hj)
            rw [show c - 1 + (j + 1) = c + j by omega]
            simpa using this
        · exact hB.setCell (p := ⟨w.heap.size, c - 1, none⟩) (Nat.le_refl _) _
      case measure => simp [intOf]; omega
    · have hv16 : v < 16 := by omega
      have hcast : (c : Int) - 1 = ((c - 1 : Nat) : Int) := by omega
      have hsl := fun W => sl65 W w.heap.size (c - 1) (by omega)
      rw [← hcast] at hsl
      have hdig := fun h => digs_at v h
      have hcv : ∀ dst, Tryd.prog.underlying dst = some .string → (convert 30 dst (.slice (some ⟨w.heap.size, c - 1, none⟩) (65 - (c - 1)) (65 - (c - 1)))).run Tryd.prog (wr.setCell ⟨w.heap.size, c - 1, none⟩ (.int .u8 (hexd v).toNat)) = .ok (.string (strOfNums ((hexd v :: ds).map fun b => (b.toNat : Int)))) (wr.setCell ⟨w.heap.size, c - 1, none⟩ (.int .u8 (hexd v).toNat)) := by
        refine run_convert_bytes_arg _ 30 5 Tryd.underlying30 Tryd.underlying5 w.heap.size (c - 1) _ _ _ (by have := hcd.out; simp; omega) ?_
        intro j hj
        cases j with
        | zero => exact World.cell?_setCell_same _ _ _ hx
        | succ j =>
          rw [World.cell?_setCell_other _ _ _ _ (by intro e_; simp at e_ <;> omega)]
          have := hdc.out j (by have := hcd.out; omega)
          rw [show c - 1 + (j + 1) = c + j by omega, this]
          have hj' : j < ds.length := by have := hcd.out; omega
          simp [List.getD_eq_getElem?_getD, List.getElem?_eq_getElem hj']
      replace hcv := hcv 9 Tryd.underlying9
      have hfin : strOfNums ((hexd v :: ds).map fun b => (b.toNat : Int)) = ⟨(hexList u).toArray⟩ := by
        have := hds.out
        rw [hexList_lt hv16] at this
        rw [← this]
        simp [strOfNums, Function.comp_def]
      rw [hfin] at hcv
      clear hfin hcast
      go_wp2
      go_ret2
      exact ⟨rfl, hB.setCell (p := ⟨w.heap.size, c - 1, none⟩) (Nat.le_refl _) _⟩

set_option maxHeartbeats 400000 in
theorem formatUint16 (u : Nat) (w : World) (hu : u < 18446744073709551616) (hc : w.cell? ⟨2, 15, none⟩ = some (.int .u8 4)) (hw : 2 < w.heap.size) :
    Calls Tryd.prog 16 #[.int .u64 (u : Int), .int .i64 16] w fun e w' => e = .returned (.string ⟨(hexList u).toArray⟩) ∧ Below w.heap.size w w' := by
  go_enter Tryd.func16, Tryd.ntmps16
  go_wp2_with (go_at_call 20; refine (formatBits16 u _ hu hc hw).mono ?_; rintro e w1 ⟨rfl, hb⟩)
  go_ret
  exact ⟨rfl, hb⟩
set_option maxHeartbeats 400000 in
theorem formatUint16' (u : Nat) (w : World) (hu : u < 18446744073709551616) (hc : w.cell? ⟨2, 15, none⟩ = some (.int .u8 4)) (hw : 2 < w.heap.size) :
    Calls Tryd.prog 15 #[.int .u64 (u : Int), .int .i64 16] w fun e w' => e = .returned (.string ⟨(hexList u).toArray⟩) ∧ Below w.heap.size w w' := by
  go_enter Tryd.func15, Tryd.ntmps15
  go_wp2_with (go_at_call 16; refine (formatUint16 u _ hu hc hw).mono ?_; rintro e w1 ⟨rfl, hb⟩)
  go_ret
  exact ⟨rfl, hb⟩

/-- Eight digits of base 16. -/
def hex8 (n : Nat) : ByteArray := ⟨((hexList (n + 4294967296)).drop 1).toArray⟩
theorem orTop (n : Nat) (h : n < 4294967296) : bits .or .u64 (n : Int) 4294967296 = ((n + 4294967296 : Nat) : Int) := by
  have h1 := u64_or_nat n 4294967296 (by omega) (by decide)
  rw [Nat.or_comm, nat_join 32 4294967296 n (by decide) (by simpa using h), Nat.add_comm] at h1
  exact h1

theorem formatTop (n : Nat) (w : World) (hn : n < 4294967296) (hc : w.cell? ⟨2, 15, none⟩ = some (.int .u8 4)) (hw : 2 < w.heap.size) :
    Calls Tryd.prog 15 #[.int .u64 ((n : Int) + 4294967296), .int .i64 16] w fun e w' => ∃ s : ByteArray, 1 ≤ s.size ∧ Hid (s.extract 1 s.size = hex8 n) ∧ e = .returned (.string s) ∧ Below w.heap.size w w' := by
  have h := formatUint16' (n + 4294967296) w (by omega) hc hw
  simp only [Int.natCast_add] at h
  refine h.mono fun e w' ⟨he, hb⟩ => ⟨⟨(hexList (n + 4294967296)).toArray⟩, by have := hexList_pos (n + 4294967296); simpa [ByteArray.size] using this, ?_, he, hb⟩
  show _ = hex8 n
  unfold hex8
  apply ByteArray.ext
  simp [ByteArray.size, List.take_of_length_le]

set_option maxHeartbeats 400000 in
theorem hex_walk (n : Nat) (w : World) (hn : n < 4294967296) (hc : w.cell? ⟨2, 15, none⟩ = some (.int .u8 4)) (hw : 2 < w.heap.size) :
    Calls Tryd.prog 13 #[.int .u32 (n : Int)] w fun e w' => e = .returned (.string (hex8 n)) ∧ Below w.heap.size w w' := by
  have ho := orTop n hn
  go_enter Tryd.func13, Tryd.ntmps13
  go_wp2_with (go_at_call 15; refine (formatTop n _ hn hc hw).mono ?_; rintro e w1 ⟨s, hs1, hs, rfl, hb⟩)
  go_ret
  rw [hs.out]
  exact ⟨rfl, hb⟩

/-- THE TABLE THAT IS READ: math/bits.deBruijn64tab at 15. -/
structure Glob (w : World) : Prop where
  cell : w.cell? ⟨2, 15, none⟩ = some (.int .u8 4)
  size : 2 < w.heap.size
theorem Glob.below {w w' : World} (h : Glob w) (hb : Below w.heap.size w w') : Glob w' :=
  ⟨(hb.cell (p := ⟨2, 15, none⟩) (by have := h.size; simp; omega)).trans h.cell, Nat.le_trans h.size hb.size⟩

def sum_Add.f (n : Int) (s : ByteArray) : Option Int := if 0 ≤ n ∧ n < 4294967296 ∧ s.size ≤ 140737488351232 then some ((adlSum (adl (adlStart n.toNat) s.data.toList) : Nat) : Int) else none
theorem sum_Add.calls (a0 : Int) (a1 : ByteArray) (r : Int) (w : World) (h : sum_Add.f a0 a1 = some r) :
    Calls Tryd.prog 9 #[.int .u32 a0, .string a1] w fun e w' => e = .returned (.int .u32 r) ∧ Below w.heap.size w w' := by
  unfold sum_Add.f at h
  split at h
  · rename_i hc
    obtain ⟨h0, h1, h2⟩ := hc
    obtain ⟨n, rfl⟩ := Int.eq_ofNat_of_zero_le h0
    cases h
    exact add_walk n a1 w (by omega) h2
  · cases h
def sum_Hex.f (n : Int) : Option ByteArray := if 0 ≤ n ∧ n < 4294967296 then some (hex8 n.toNat) else none
theorem sum_Hex.calls (a0 : Int) (r : ByteArray) (w : World) (hG : Glob w) (h : sum_Hex.f a0 = some r) :
    Calls Tryd.prog 13 #[.int .u32 a0] w fun e w' => e = .returned (.string r) ∧ Below w.heap.size w w' := by
  unfold sum_Hex.f at h
  split at h
  · rename_i hc
    obtain ⟨h0, h1⟩ := hc
    obtain ⟨n, rfl⟩ := Int.eq_ofNat_of_zero_le h0
    cases h
    exact hex_walk n w (by omega) hG.cell hG.size
  · cases h
end Go.Proofs.YtanclpdphlbeiaaDoor.Hand
