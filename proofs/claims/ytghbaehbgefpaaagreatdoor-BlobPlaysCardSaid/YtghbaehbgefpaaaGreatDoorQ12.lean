import Derived.Test.YtghbaehbgefpaaaGreatDoorProg
import Derived.WalkKit
import Derived.Lib.ConvBytes
import Derived.Outline
import Derived.Lib.Hide
import Derived.Deep.QuietTactic
import Derived.BigQuiet
import Derived.Test.YtghbaehbgefpaaaGreatDoorQ09
import Derived.Test.YtghbaehbgefpaaaGreatDoorQ11
import Derived.Lib.SplitLaws
/- Several texts of this session in one: the walks of the functions that the laws reach, and what they tell. -/
set_option linter.unusedVariables false
set_option linter.unusedSimpArgs false
namespace Go.Proofs.YtghbaehbgefpaaaGreatDoor.SumW
open Go.RowKit
def adlStep (p : Nat × Nat) (c : UInt8) : Nat × Nat := ((p.1 + c.toNat) % 65521, (p.2 + (p.1 + c.toNat) % 65521) % 65521)
def adl (p : Nat × Nat) (l : List UInt8) : Nat × Nat := l.foldl adlStep p
def adlStart (n : Nat) : Nat × Nat := (n % 65536 % 65521, n / 65536 % 65521)
def adlSum (p : Nat × Nat) : Nat := p.2 * 65536 + p.1
theorem adl_lt (l : List UInt8) : ∀ (p : Nat × Nat), p.1 < 65521 → p.2 < 65521 → (adl p l).1 < 65521 ∧ (adl p l).2 < 65521 := by
  induction l with
  | nil => intro p h1 h2; exact ⟨h1, h2⟩
  | cons c l ih => intro p h1 h2; exact ih _ (Nat.mod_lt _ (by decide)) (Nat.mod_lt _ (by decide))
theorem adl_snoc (p : Nat × Nat) (l : List UInt8) (c : UInt8) : adl p (l ++ [c]) = adlStep (adl p l) c := by
  simp [adl, List.foldl_append]
theorem adlStart_lt (n : Nat) : (adlStart n).1 < 65521 ∧ (adlStart n).2 < 65521 := ⟨Nat.mod_lt _ (by decide), Nat.mod_lt _ (by decide)⟩
theorem and65535 (n : Nat) (h : n < 4294967296) : bits .and .u32 (n : Int) 65535 = ((n % 65536 : Nat) : Int) := by
  have := u32_and_nat n 65535 h (by decide)
  rw [nat_mask16] at this
  exact this
theorem orShift (a b : Nat) (ha : a < 65521) (hb : b < 65521) : bits .or .u32 ((b : Int) * 65536) (a : Int) = ((b * 65536 + a : Nat) : Int) := by
  have h := u32_or_nat (b * 65536) a (by omega) (by omega)
  rw [nat_join 16 (b * 65536) a (by omega) (by omega)] at h
  simpa using h
theorem below_bytes {B : Nat} {a w : World} (h : Below B a w) (hB : B ≤ w.heap.size) (e : TypeId) (s : ByteArray) : Below B a (Lib.bytesWorld w e s) :=
  h.trans ⟨rfl, rfl, rfl, by rw [Lib.bytesWorld_size]; omega, fun k hk => Lib.bytesWorld_at_old w e s k (by omega)⟩
theorem bytes_frozen_old (w : World) (e : TypeId) (s : ByteArray) (a : Addr) (ha : a.block < w.heap.size) : (Lib.bytesWorld w e s).frozen? a = w.frozen? a :=
  World.frozen?_of_block (Lib.bytesWorld_at_old w e s a.block ha)
set_option maxHeartbeats 800000 in
theorem add_walk (n : Nat) (s : ByteArray) (w : World) (h1 : n < 4294967296) (hs : s.size ≤ 140737488351232) :
    Calls Tryz.prog 95 #[.int .u32 (n : Int), .string s] w fun e w' => e = .returned (.int .u32 ((adlSum (adl (adlStart n) s.data.toList) : Nat) : Int)) ∧ Below w.heap.size w w' := by
  have hcv := fun (W : World) => Lib.run_convert_string_bytes (P := Tryz.prog) W 9 120 5 s Tryz.underlying9 Tryz.underlying120 Tryz.underlying5
  have ha := and65535 n h1
  go_enter Tryz.func95, Tryz.ntmps95
  go_wp2
  clear ha hcv
  go_loopw [7, 18] (fun v7 i wr => ∃ (k : Nat) (a b : Nat), k ≤ s.size ∧ i = .int .i64 k ∧ Hid ((a, b) = adl (adlStart n) (s.data.toList.take k)) ∧ a < 65521 ∧ b < 65521 ∧
      wr.cell? ⟨w.heap.size, 0, none⟩ = some (.int .u32 (a : Int)) ∧ wr.cell? ⟨w.heap.size, 1, none⟩ = some (.int .u32 (b : Int)) ∧
      wr.frozen? ⟨w.heap.size, 0, none⟩ = false ∧ wr.frozen? ⟨w.heap.size, 1, none⟩ = false ∧
      (∀ j, j < s.size → wr.cell? ⟨w.heap.size + 1, j, none⟩ = some (.int .u8 (s.data.toList.getD j 0).toNat)) ∧ Below w.heap.size w wr)
    (fun _ i _ => s.size - (intOf i).toNat)
  case atStart =>
    have hst := adlStart_lt n
    refine ⟨0, (adlStart n).1, (adlStart n).2, Nat.zero_le _, rfl, rfl, hst.1, hst.2, ?_, ?_, ?_, ?_, ?_, ?_⟩
    · rw [Lib.bytesWorld_old _ _ _ _ (by simp)]; simp [adlStart]
    · rw [Lib.bytesWorld_old _ _ _ _ (by simp)]; simp [adlStart]
    · rw [bytes_frozen_old _ _ _ _ (by simp)]; simp
    · rw [bytes_frozen_old _ _ _ _ (by simp)]; simp
    · intro j hj
      have := Lib.bytesWorld_cell (w.alloc (Obj.cells #[Value.int IntKind.u32 (↑n % 65536 % 65521), Value.int IntKind.u32 (↑n / 65536 % 65521)] 163)) 5 s j hj
      simpa using this
    · exact below_bytes ((Below.refl _ _).alloc (Nat.le_refl _) _) (by simp) _ _
  case round =>
    obtain ⟨k, a, b, hk, rfl, hab, la, lb, ca, cb, fa, fb, hcell, hB⟩ := hrel
    by_cases hlt : k < s.size
    · have hc := hcell k hlt
      have hc8 : (s.data.toList.getD k 0).toNat < 256 := UInt8.toNat_lt _
      have hCell : Hid _ := Lib.hid hcell
      clear hcell
      obtain ⟨c, hcv⟩ : ∃ c, Hid ((s.data.toList.getD k 0).toNat = c) := ⟨_, rfl⟩
      rw [hcv.out] at hc hc8
      go_wp2
      go_roundw
      case rel =>
        have hstep : adl (adlStart n) (s.data.toList.take (k + 1)) = ((a + c) % 65521, (b + (a + c) % 65521) % 65521) := by
          have hk' : k < s.data.toList.length := by simpa using hlt
          rw [List.take_succ_eq_append_getElem hk', adl_snoc, ← hab.out, ← hcv.out]
          simp [adlStep, List.getD_eq_getElem?_getD, List.getElem?_eq_getElem hk']
        refine ⟨k + 1, (a + c) % 65521, (b + (a + c) % 65521) % 65521, by omega, by go_num, hstep.symm, Nat.mod_lt _ (by decide), Nat.mod_lt _ (by decide), ?_, ?_, ?_, ?_, ?_, ?_⟩
        · go_simp
        · go_simp
        · simp [fa]
        · simp [fb]
        · intro j hj
          have := hCell.out j hj
          go_simp
        · exact (hB.setCell (p := ⟨w.heap.size, 0, none⟩) (Nat.le_refl _) _).setCell (p := ⟨w.heap.size, 1, none⟩) (Nat.le_refl _) _
      case measure => simp [intOf]; omega
    · have ho := orShift a b la lb
      clear hcell
      go_wp2
      go_ret
      refine ⟨?_, hB⟩
      rw [List.take_of_length_le (by simp; omega)] at hab
      rw [← hab.out]
      rfl
def hexd (n : Nat) : UInt8 := UInt8.ofNat (if n < 10 then 48 + n else 87 + n)
def hexList (n : Nat) : List UInt8 := if h : n < 16 then [hexd n] else hexList (n / 16) ++ [hexd (n % 16)]
decreasing_by omega
theorem hexList_lt {n : Nat} (h : n < 16) : hexList n = [hexd n] := by rw [hexList, dif_pos h]
theorem hexList_ge {n : Nat} (h : 16 ≤ n) : hexList n = hexList (n / 16) ++ [hexd (n % 16)] := by rw [hexList, dif_neg (by omega)]
theorem hexList_pos (n : Nat) : 1 ≤ (hexList n).length := by
  by_cases h : n < 16
  · rw [hexList_lt h]; simp
  · rw [hexList_ge (by omega)]; simp
theorem hexList_len : ∀ (k n : Nat), n < 16 ^ k → 1 ≤ k → (hexList n).length ≤ k := by
  intro k
  induction k with
  | zero => intro n _ h; omega
  | succ k ih =>
    intro n hn _
    by_cases h : n < 16
    · rw [hexList_lt h]; simp
    · rw [hexList_ge (by omega)]
      have hk : 1 ≤ k := by
        rcases Nat.eq_zero_or_pos k with rfl | h'
        · simp at hn; omega
        · exact h'
      have := ih (n / 16) (by rw [Nat.div_lt_iff_lt_mul (by decide)]; rw [Nat.pow_succ] at hn; omega) hk
      simp; omega
set_option maxHeartbeats 400000 in
theorem tz16 (w : World) (hc : w.cell? ⟨5, 15, none⟩ = some (.int .u8 4)) :
    Calls Tryz.prog 166 #[.int .u64 16] w fun e w' => e = .returned (.int .i64 4) ∧ w' = w := by
  have h1 : bits .and .u64 16 (IntKind.u64.wrap (-16)) = 16 := by decide +kernel
  have h2 : IntKind.u64.wrap (16 * 285870213051353865) = 4573923408821661840 := by decide +kernel
  go_enter Tryz.func166, Tryz.ntmps166
  go_wp2
  go_ret
  exact ⟨rfl, rfl⟩
set_option maxHeartbeats 400000 in
theorem tz16' (w : World) (hc : w.cell? ⟨5, 15, none⟩ = some (.int .u8 4)) :
    Calls Tryz.prog 152 #[.int .u64 16] w fun e w' => e = .returned (.int .i64 4) ∧ w' = w := by
  go_enter Tryz.func152, Tryz.ntmps152
  go_wp2_with (go_at_call 166; refine (tz16 _ hc).mono ?_; rintro e w' ⟨rfl, rfl⟩)
  go_ret
  exact ⟨rfl, rfl⟩
set_option maxHeartbeats 400000 in
theorem p216 (w : World) :
    Calls Tryz.prog 151 #[.int .i64 16] w fun e w' => e = .returned (.bool true) ∧ w' = w := by
  have h1 : bits .and .i64 16 15 = 0 := by decide +kernel
  go_enter Tryz.func151, Tryz.ntmps151
  go_wp2
  go_ret
  exact ⟨rfl, rfl⟩
theorem and15 (n : Nat) (h : n < 18446744073709551616) : bits .and .u64 (n : Int) 15 = ((n % 16 : Nat) : Int) := by
  have := u64_and_nat n 15 h (by decide)
  rw [nat_mask4] at this
  exact this
theorem digs_at : ∀ (m : Nat) (h : m < 36), (⟨#[48, 49, 50, 51, 52, 53, 54, 55, 56, 57, 97, 98, 99, 100, 101, 102, 103, 104, 105, 106, 107, 108, 109, 110, 111, 112, 113, 114, 115, 116, 117, 118, 119, 120, 121, 122]⟩ : ByteArray)[m] = hexd m := by decide +kernel
def z65 : Array Value := Array.replicate 65 (.int .u8 0)
theorem sl65 (W : World) (b l : Nat) (h : l < 65) : (Instr.sliceAt 196 (.pointer (some ⟨b, 0, none⟩)) (some (.int .i64 (l : Int))) none none).run Tryz.prog W = .ok (.slice (some ⟨b, l, none⟩) (65 - l) (65 - l)) W := by
  have h1 : Tryz.prog.arrayLen 196 = 65 := by kernel_rfl
  have h2 : Tryz.prog.elem 196 = 5 := by kernel_rfl
  rw [run_sliceAt_array_l W 196 _ (by rw [h1, h2]; exact Tryz.underlying196) _ _ (by omega) (by rw [h1]; omega), h1, h2]
  have h3 : (sizeOf 5).run Tryz.prog W = .ok 1 W := by kernel_rfl
  rw [h3]
  simp [Result.andThen, slicedAt, show ¬ 65 = l by omega, Addr.add]
  intro e; exact e.symm
theorem zero65 (w : World) : (zeroValue 196).run Tryz.prog w = .ok (.agg z65) w := by kernel_rfl
theorem z65_at (w : World) (o : Nat) (h : o < 65) : (w.alloc (.cells z65 196)).cell? ⟨w.heap.size, o, none⟩ = some (.int .u8 0) := by
  simp [z65, h]
set_option maxRecDepth 100000 in
set_option maxHeartbeats 1000000 in
theorem formatBits16 (u : Nat) (w : World) (hu : u < 18446744073709551616) (hc : w.cell? ⟨5, 15, none⟩ = some (.int .u8 4)) (hw : 7 < w.heap.size) :
    Calls Tryz.prog 133 #[.slice none 0 0, .int .u64 (u : Int), .int .i64 16, .bool false, .bool false] w fun e w' => e = .returned (.tuple #[.slice none 0 0, .string ⟨(hexList u).toArray⟩]) ∧ Below w.heap.size w w' := by
  have hc1 : (w.alloc (.cells z65 196)).cell? ⟨5, 15, none⟩ = some (.int .u8 4) := by rw [World.cell?_alloc_old _ _ _ (by simp; omega)]; exact hc
  have hz := zero65
  go_enter Tryz.func133, Tryz.ntmps133
  go_wp2_with (first | (go_at_call 151; refine (p216 _).mono ?_; rintro e w' ⟨rfl, rfl⟩) | (go_at_call 152; refine (tz16' _ hc1).mono ?_; rintro e w' ⟨rfl, rfl⟩))
  clear hc1 hz
  have hlen : (hexList u).length ≤ 16 := hexList_len 16 u (by omega) (by omega)
  go_loopw [1, 13] (fun v1 v13 wr => ∃ (v c : Nat) (ds : List UInt8), v1 = .int .u64 (v : Int) ∧ v13 = .int .i64 (c : Int) ∧ v < 18446744073709551616 ∧ c ≤ 65 ∧ Hid (c + ds.length = 65) ∧ Hid (hexList v ++ ds = hexList u) ∧
      Hid (∀ o, o < 65 → ∃ x, wr.cell? ⟨w.heap.size, o, none⟩ = some x) ∧ Hid (∀ o, wr.frozen? ⟨w.heap.size, o, none⟩ = false) ∧
      Hid (∀ j, j < ds.length → wr.cell? ⟨w.heap.size, c + j, none⟩ = some (.int .u8 (ds.getD j 0).toNat)) ∧ Below w.heap.size w wr)
    (fun v1 _ _ => (intOf v1).toNat)
  case atStart =>
    refine ⟨u, 65, [], rfl, rfl, hu, Nat.le_refl _, rfl, by simp [Hid], fun o ho => ⟨_, z65_at w o ho⟩, fun o => by simp, fun j hj => by simp at hj, (Below.refl _ _).alloc (Nat.le_refl _) _⟩
  case round =>
    obtain ⟨v, c, ds, rfl, rfl, hv, hc65, hcd, hds, hcell, hfr, hdc, hB⟩ := hrel
    have hl1 := congrArg List.length hds.out
    rw [List.length_append] at hl1
    have hp := hexList_pos v
    have hcd' := hcd.out
    have hc49 : 49 ≤ c - 1 := by omega
    clear hcd' hl1 hp hlen
    obtain ⟨x, hx⟩ := hcell.out (c - 1) (by omega)
    have hf := hfr.out (c - 1)
    by_cases hge : 16 ≤ v
    · have ha := and15 v hv
      go_wp2
      go_roundw
      case rel =>
        rw [hexList_ge hge] at hds
        refine ⟨v / 16, c - 1, hexd (v % 16) :: ds, by simp, by simp; omega, by omega, by omega, ?_, ?_, ?_, ?_, ?_, ?_⟩
        · have := hcd.out
          show c - 1 + (ds.length + 1) = 65
          omega
        · have := hds.out
          show hexList (v / 16) ++ hexd (v % 16) :: ds = hexList u
          rw [← this]
          simp
        · intro o ho
          by_cases e : o = c - 1
          · subst e
            exact ⟨_, World.cell?_setCell_same _ _ _ hx⟩
          · obtain ⟨y, hy⟩ := hcell.out o ho
            refine ⟨y, ?_⟩
            rw [World.cell?_setCell_other _ _ _ _ (by intro e_; simp at e_ <;> omega)]
            exact hy
        · intro o
          simpa using hfr.out o
        · intro j hj
          rw [digs_at (v % 16) (by omega)]
          cases j with
          | zero => exact World.cell?_setCell_same _ _ _ hx
          | succ j =>
            rw [World.cell?_setCell_other _ _ _ _ (by intro e_; simp at e_ <;> omega)]
            have := hdc.out j (by simpa using hj)
            rw [show c - 1 + (j + 1) = c + j by omega]
            simpa using this
        · exact hB.setCell (p := ⟨w.heap.size, c - 1, none⟩) (Nat.le_refl _) _
      case measure => simp [intOf]; omega
    · have hv16 : v < 16 := by omega
      have hcast : (c : Int) - 1 = ((c - 1 : Nat) : Int) := by omega
      have hsl := fun W => sl65 W w.heap.size (c - 1) (by omega)
      rw [← hcast] at hsl
      have hdig := fun h => digs_at v h
      have hcv : ∀ dst, Tryz.prog.underlying dst = some .string → (convert 120 dst (.slice (some ⟨w.heap.size, c - 1, none⟩) (65 - (c - 1)) (65 - (c - 1)))).run Tryz.prog (wr.setCell ⟨w.heap.size, c - 1, none⟩ (.int .u8 (hexd v).toNat)) = .ok (.string (strOfNums ((hexd v :: ds).map fun b => (b.toNat : Int)))) (wr.setCell ⟨w.heap.size, c - 1, none⟩ (.int .u8 (hexd v).toNat)) := by
        refine run_convert_bytes_arg _ 120 5 Tryz.underlying120 Tryz.underlying5 w.heap.size (c - 1) _ _ _ (by have := hcd.out; simp; omega) ?_
        intro j hj
        cases j with
        | zero => exact World.cell?_setCell_same _ _ _ hx
        | succ j =>
          rw [World.cell?_setCell_other _ _ _ _ (by intro e_; simp at e_ <;> omega)]
          have := hdc.out j (by have := hcd.out; omega)
          rw [show c - 1 + (j + 1) = c + j by omega, this]
          have hj' : j < ds.length := by have := hcd.out; omega
          simp [List.getD_eq_getElem?_getD, List.getElem?_eq_getElem hj']
      replace hcv := hcv 9 Tryz.underlying9
      have hfin : strOfNums ((hexd v :: ds).map fun b => (b.toNat : Int)) = ⟨(hexList u).toArray⟩ := by
        have := hds.out
        rw [hexList_lt hv16] at this
        rw [← this]
        simp [strOfNums, Function.comp_def]
      rw [hfin] at hcv
      clear hfin hcast
      go_wp2
      go_ret2
      exact ⟨rfl, hB.setCell (p := ⟨w.heap.size, c - 1, none⟩) (Nat.le_refl _) _⟩
set_option maxHeartbeats 400000 in
theorem formatUint16 (u : Nat) (w : World) (hu : u < 18446744073709551616) (hc : w.cell? ⟨5, 15, none⟩ = some (.int .u8 4)) (hw : 7 < w.heap.size) :
    Calls Tryz.prog 109 #[.int .u64 (u : Int), .int .i64 16] w fun e w' => e = .returned (.string ⟨(hexList u).toArray⟩) ∧ Below w.heap.size w w' := by
  go_enter Tryz.func109, Tryz.ntmps109
  go_wp2_with (go_at_call 133; refine (formatBits16 u _ hu hc hw).mono ?_; rintro e w1 ⟨rfl, hb⟩)
  go_ret
  exact ⟨rfl, hb⟩
set_option maxHeartbeats 400000 in
theorem formatUint16' (u : Nat) (w : World) (hu : u < 18446744073709551616) (hc : w.cell? ⟨5, 15, none⟩ = some (.int .u8 4)) (hw : 7 < w.heap.size) :
    Calls Tryz.prog 94 #[.int .u64 (u : Int), .int .i64 16] w fun e w' => e = .returned (.string ⟨(hexList u).toArray⟩) ∧ Below w.heap.size w w' := by
  go_enter Tryz.func94, Tryz.ntmps94
  go_wp2_with (go_at_call 109; refine (formatUint16 u _ hu hc hw).mono ?_; rintro e w1 ⟨rfl, hb⟩)
  go_ret
  exact ⟨rfl, hb⟩
def hex8 (n : Nat) : ByteArray := ⟨((hexList (n + 4294967296)).drop 1).toArray⟩
theorem orTop (n : Nat) (h : n < 4294967296) : bits .or .u64 (n : Int) 4294967296 = ((n + 4294967296 : Nat) : Int) := by
  have h1 := u64_or_nat n 4294967296 (by omega) (by decide)
  rw [Nat.or_comm, nat_join 32 4294967296 n (by decide) (by simpa using h), Nat.add_comm] at h1
  exact h1
theorem formatTop (n : Nat) (w : World) (hn : n < 4294967296) (hc : w.cell? ⟨5, 15, none⟩ = some (.int .u8 4)) (hw : 7 < w.heap.size) :
    Calls Tryz.prog 94 #[.int .u64 ((n : Int) + 4294967296), .int .i64 16] w fun e w' => ∃ s : ByteArray, 1 ≤ s.size ∧ Hid (s.extract 1 s.size = hex8 n) ∧ e = .returned (.string s) ∧ Below w.heap.size w w' := by
  have h := formatUint16' (n + 4294967296) w (by omega) hc hw
  simp only [Int.natCast_add] at h
  refine h.mono fun e w' ⟨he, hb⟩ => ⟨⟨(hexList (n + 4294967296)).toArray⟩, by have := hexList_pos (n + 4294967296); simpa [ByteArray.size] using this, ?_, he, hb⟩
  show _ = hex8 n
  unfold hex8
  apply ByteArray.ext
  simp [ByteArray.size, List.take_of_length_le]
set_option maxHeartbeats 400000 in
theorem hex_walk (n : Nat) (w : World) (hn : n < 4294967296) (hc : w.cell? ⟨5, 15, none⟩ = some (.int .u8 4)) (hw : 7 < w.heap.size) :
    Calls Tryz.prog 70 #[.int .u32 (n : Int)] w fun e w' => e = .returned (.string (hex8 n)) ∧ Below w.heap.size w w' := by
  have ho := orTop n hn
  go_enter Tryz.func70, Tryz.ntmps70
  go_wp2_with (go_at_call 94; refine (formatTop n _ hn hc hw).mono ?_; rintro e w1 ⟨s, hs1, hs, rfl, hb⟩)
  go_ret
  rw [hs.out]
  exact ⟨rfl, hb⟩
end Go.Proofs.YtghbaehbgefpaaaGreatDoor.SumW
namespace Go.Proofs.YtghbaehbgefpaaaGreatDoor.Hand
open Go.RowKit Go.Proofs.YtghbaehbgefpaaaGreatDoorW.PrintWords
theorem bld_isF {b B1 : Nat} {bs : List Value} {w : World} (h : Bld b B1 bs w) : Lib.IsBuilderF 125 5 b b bs w := by
  obtain ⟨h1, h2, p, v, hp, hb, hown⟩ := h
  have hlow : w.ownsRowF b 5 1 v bs.length bs := by
    refine ⟨hown.1, ?_⟩
    rcases hown.2 with hz | ⟨g, cap, cur, fz, hv, hg, hr⟩
    · exact .inl hz
    · exact .inr ⟨g, cap, cur, fz, hv, by omega, hr⟩
  have hat : Lib.BuilderAtF 125 5 b b p bs w := ⟨Nat.le_refl _, v, hb, hlow, Lib.ownBlock_neF hown hb (by decide)⟩
  rcases hp with rfl | rfl
  · exact .inl hat
  · exact .inr hat
theorem bld_of_isF {b : Nat} {bs : List Value} {w : World} (h : Lib.IsBuilderF 125 5 b b bs w) : Bld b (b + 1) bs w := by
  have key : ∀ p, (p = .pointer none ∨ p = .pointer (some ⟨b, 0, none⟩)) → Lib.BuilderAtF 125 5 b b p bs w → Bld b (b + 1) bs w := by
    intro p hp hat
    obtain ⟨-, v, hb, hown, hne⟩ := hat
    refine ⟨Nat.lt_succ_self b, (Array.getElem?_eq_some_iff.1 hb).1, p, v, hp, hb, hown.1, ?_⟩
    rcases hown.2 with hz | ⟨g, cap, cur, fz, hv, hg, hr⟩
    · exact .inl hz
    · refine .inr ⟨g, cap, cur, fz, hv, ?_, hr⟩
      have : g ≠ b := by
        intro e
        apply hne
        rw [hv, e]
        rfl
      omega
  rcases h with h | h
  · exact key _ (.inl rfl) h
  · exact key _ (.inr rfl) h
theorem apart_of_belowB {b : Nat} {w w' : World} (h : Below b w w') : Apart b (b + 1) w w' := ⟨h.os, h.tape, h.output, h.size, fun k hk hne => h.block k (by omega)⟩
theorem bstring2 (b : Nat) (l : List UInt8) (w : World) (h : Bld b (b + 1) (Lib.byteCells l) w) :
    Calls Tryz.prog 72 #[.pointer (some ⟨b, 0, none⟩)] w fun e w' => e = .returned (.string ⟨l.toArray⟩) ∧ Bld b (b + 1) (Lib.byteCells l) w' ∧ Apart b (b + 1) w w' :=
  (Tryz.Builder_String_any_f b b l w (bld_isF h) (by have := h.2.1; omega)).mono fun e w' h => ⟨h.1, bld_of_isF h.2.1, apart_of_belowB h.2.2⟩
theorem blen (b B1 : Nat) (bs : List Value) (w : World) (h : Bld b B1 bs w) :
    Calls Tryz.prog 73 #[.pointer (some ⟨b, 0, none⟩)] w fun e w' => e = .returned (.int .i64 bs.length) ∧ w = w' :=
  (Tryz.Builder_Len_f b b bs w (bld_isF h)).mono fun e w' h => ⟨h.1, h.2.symm⟩
def adlOf (l : List UInt8) : Nat := SumW.adlSum (SumW.adl (SumW.adlStart 1) l)
theorem adlOf_lt (l : List UInt8) : adlOf l < 4294967296 := by
  have h := SumW.adlStart_lt 1
  have := SumW.adl_lt l _ h.1 h.2
  unfold adlOf SumW.adlSum
  omega
theorem of_walk (s : ByteArray) (hs : s.size ≤ 140737488351232) (w : World) : Calls Tryz.prog 71 #[.string s] w fun e w' => e = .returned (.int .u32 (adlOf s.data.toList : Nat)) ∧ Below w.heap.size w w' := by
  have HA := Lib.hid (SumW.add_walk 1 s w (by decide) hs)
  go_enter Tryz.func71, Tryz.ntmps71
  go_wp2_with (go_at_call 95; refine HA.out.mono ?_; rintro e w' ⟨rfl, hb⟩)
  go_ret
  exact ⟨rfl, hb⟩
def bodyL (l : List ByteArray) : List UInt8 := l.flatMap fun s => (quoteV s).data.toList ++ [32]
def lineL (l : List ByteArray) : List UInt8 := bodyL l ++ (SumW.hex8 (adlOf (bodyL l))).data.toList ++ [10]
def putV (l : List ByteArray) : ByteArray × Int := if l.length = 0 then (⟨#[]⟩, 1) else if 40 < l.length then (⟨#[]⟩, 3) else if 13000 < (lineL l).length then (⟨#[]⟩, 3) else (⟨(lineL l).toArray⟩, 0)
theorem bodyL_snoc (l : List ByteArray) (x : ByteArray) : bodyL (l ++ [x]) = bodyL l ++ ((quoteV x).data.toList ++ [32]) := by simp [bodyL]
theorem quoteV_len (s : ByteArray) : (quoteV s).size ≤ 3 * s.size + 1 := by
  unfold quoteV
  split
  · show 1 ≤ _
    omega
  · have := quote_len s.data.toList
    have h2 : s.data.toList.length = s.size := by rw [Array.length_toList]; rfl
    rw [h2] at this
    show (s.data.toList.flatMap quoteB).toArray.size ≤ _
    rw [List.size_toArray]
    omega
theorem bodyL_len (m : Nat) : ∀ l : List ByteArray, (∀ x ∈ l, x.size ≤ m) → (bodyL l).length ≤ (3 * m + 2) * l.length := by
  intro l
  induction l with
  | nil => intro _; exact Nat.le_refl _
  | cons x r ih =>
    intro h
    have h1 := ih fun y hy => h y (by simp [hy])
    have h2 := quoteV_len x
    have h3 := h x (by simp)
    have h4 : (quoteV x).data.toList.length = (quoteV x).size := by rw [Array.length_toList]; rfl
    show (((quoteV x).data.toList ++ [32]) ++ bodyL r).length ≤ _
    rw [List.length_append, List.length_append, h4, List.length_cons (a := x), Nat.mul_succ]
    simp only [List.length_cons, List.length_nil]
    omega
theorem cells_of_C {w : World} {A : Option Addr} {l : List ByteArray} (hC : Kd.C Kd.string w A l.length l) (h0 : 0 < l.length) :
    ∃ bk o, A = some ⟨bk, o, none⟩ ∧ bk < w.heap.size ∧ ∀ (j : Nat) (h : j < l.length), w.cell? ⟨bk, o + j, none⟩ = some (.string l[j]) := by
  obtain ⟨ad, rfl, hxs⟩ := hC.2.2 h0
  have hcell : ∀ (j : Nat) y, l[j]? = some y → w.cell? (ad.add j) = some (.string y) := by
    intro j y hy
    obtain ⟨cs, hl, hk, hcs⟩ := hxs j y hy
    obtain rfl : cs = [.string y] := hk
    have := hcs 0 _ rfl
    simpa [Kd.string, Kd.scalar] using this
  have h1 := hcell 0 _ (List.getElem?_eq_getElem h0)
  obtain ⟨bk, o, sp⟩ := ad
  obtain rfl : sp = none := by
    cases sp with
    | none => rfl
    | some k =>
      have h0' : w.cell? ⟨bk, o, some k⟩ = some (.string l[0]) := by simpa [Addr.add] using h1
      unfold World.cell? at h0'
      simp only [Option.isSome_some, if_true] at h0'
      split at h0' <;> cases h0'
  have hadd : ∀ j, (⟨bk, o, none⟩ : Addr).add j = ⟨bk, o + j, none⟩ := by
    intro j
    unfold Addr.add
    split
    · next h => rw [h]; rfl
    · rfl
  refine ⟨bk, o, rfl, cell_lt' (p := ⟨bk, o, none⟩) (by rwa [hadd] at h1), fun j h => ?_⟩
  rw [← hadd]
  exact hcell j _ (List.getElem?_eq_getElem h)
theorem hexList_ge8 : ∀ (k n : Nat), 16 ^ k ≤ n → k + 1 ≤ (SumW.hexList n).length := by
  intro k
  induction k with
  | zero =>
    intro n h
    exact SumW.hexList_pos n
  | succ k ih =>
    intro n h
    have hp : 16 ^ (k + 1) = 16 ^ k * 16 := Nat.pow_succ 16 k
    have h1 : 1 ≤ 16 ^ k := Nat.pos_of_ne_zero (by simp)
    rw [SumW.hexList_ge (by omega), List.length_append]
    have := ih (n / 16) (by omega)
    simp only [List.length_cons, List.length_nil]
    omega
theorem hex8_size (n : Nat) (h : n < 4294967296) : (SumW.hex8 n).size = 8 := by
  have h1 := SumW.hexList_len 9 (n + 4294967296) (by omega) (by decide)
  have h2 := hexList_ge8 8 (n + 4294967296) (by omega)
  show ((SumW.hexList (n + 4294967296)).drop 1).toArray.size = 8
  rw [List.size_toArray, List.length_drop]
  omega
def pOut (p : ByteArray × Int) : Value := .tuple #[.string p.1, .int .i64 p.2]
set_option maxHeartbeats 8000000 in
set_option maxRecDepth 100000 in
theorem put_walk (A : Option Addr) (c : Nat) (l : List ByteArray) (w : World) (hG : Hand2.Glob w) (hC : Kd.C Kd.string w A l.length l) (hc : l.length ≤ c) (hx : ∀ x ∈ l, x.size ≤ 100000) :
    Calls Tryz.prog 44 #[.slice A l.length c] w fun e w' => e = .returned (pOut (putV l)) ∧ Below w.heap.size w w' := by
  have HG := Lib.hid hG
  by_cases h0 : l.length = 0
  · have hX : Hid (putV l = (⟨#[]⟩, 1)) := by rw [Hid, putV, if_pos h0]
    rw [h0]
    clear hC hc h0
    go_enter Tryz.func44, Tryz.ntmps44
    go_wp2
    go_ret2
    exact ⟨by rw [hX.out]; rfl, Below.refl _ _⟩
  · by_cases h40 : 40 < l.length
    · have hX : Hid (putV l = (⟨#[]⟩, 3)) := by rw [Hid, putV, if_neg h0, if_pos h40]
      clear hC
      generalize l.length = n at *
      have h1 : decide (n = 0) = false := decide_eq_false h0
      clear h0
      go_enter Tryz.func44, Tryz.ntmps44
      go_wp2
      go_ret2
      exact ⟨by rw [hX.out]; rfl, Below.refl _ _⟩
    · obtain ⟨bk, o, rfl, hbk, hcell⟩ := cells_of_C hC (by omega)
      have HCELL := Lib.hid hcell
      have HX := Lib.hid hx
      clear hC hcell hx
      obtain ⟨n, hn⟩ : ∃ n, Hid (l.length = n) := ⟨_, Lib.hid rfl⟩
      rw [hn.out] at h0 h40 hc ⊢
      have h1 : ((n : Int) == 0) = false := beq_eq_false_iff_ne.2 (by omega)
      have h2 : n ≤ 40 := by omega
      have hn1 : 1 ≤ n := by omega
      clear h0 h40
      go_enter Tryz.func44, Tryz.ntmps44
      go_wp2
      obtain ⟨w0, hw0⟩ : ∃ w0, w.alloc (Obj.cells #[Value.pointer none, Value.slice none 0 0] 125) = w0 := ⟨_, rfl⟩
      have hs0 : w0.heap.size = w.heap.size + 1 := by rw [← hw0]; simp
      have hB0 : Hid (Below w.heap.size w w0) := by
        rw [Hid, ← hw0]
        exact (Below.refl _ _).alloc (Nat.le_refl _) _
      have hbl0 : Hid (Bld w.heap.size (w.heap.size + 1) [] w0) := by
        refine ⟨by omega, by rw [hs0]; omega, _, _, .inl rfl, ?_, World.ownsRowF_nil _ _ _ _⟩
        rw [← hw0]
        exact World.alloc_heap_new w _
      rw [hw0]
      clear hw0
      go_loopw [17] (fun i wr => ∃ k : Nat, k ≤ n ∧ i = .int .i64 k ∧ Hid (Bld w.heap.size (w.heap.size + 1) (Lib.byteCells (bodyL (l.take k))) wr) ∧ Hid (Apart w.heap.size (w.heap.size + 1) w0 wr))
        (fun i _ => n - (intOf i).toNat)
      case atStart => exact ⟨0, Nat.zero_le _, rfl, hbl0, Apart.refl _ _ _⟩
      case round =>
        obtain ⟨k, hk, rfl, hbl, hA⟩ := hrel
        have hlen : Hid ((bodyL (l.take k)).length ≤ 300002 * k) := by
          have h3 := bodyL_len 100000 (l.take k) fun x hm => HX.out x (List.mem_of_mem_take hm)
          have h4 : (l.take k).length ≤ k := List.length_take_le _ _
          rw [Hid]
          exact Nat.le_trans h3 (Nat.mul_le_mul_left _ h4)
        by_cases hlt : k < n
        · have hkl : k < l.length := by rw [hn.out]; exact hlt
          have hc1 : wr.cell? ⟨bk, o + k, none⟩ = some (.string l[k]) := (hA.out.cell (p := ⟨bk, o + k, none⟩) (by show bk < _; omega) (by show bk ≠ _; omega)).trans ((hB0.out.cell (p := ⟨bk, o + k, none⟩) hbk).trans (HCELL.out k hkl))
          have hxk := HX.out l[k] (List.getElem_mem hkl)
          have hst : Hid (bodyL (l.take (k + 1)) = bodyL (l.take k) ++ ((quoteV l[k]).data.toList ++ [32])) := by
            rw [Hid, List.take_succ_eq_append_getElem hkl, bodyL_snoc]
          generalize l[k] = x at hc1 hst hxk
          have hqs := quoteV_len x
          have hql : Hid ((quoteV x).data.toList.length = (quoteV x).size) := by rw [Hid, Array.length_toList]; rfl
          have HQ := Lib.hid (quote_walk x hxk wr)
          obtain ⟨q, hq⟩ : ∃ q, quoteV x = q := ⟨_, rfl⟩
          rw [hq] at hqs hql hst HQ
          clear hq
          have hz1 : Hid ((q ++ (⟨#[32]⟩ : ByteArray)).size = q.size + 1) := by rw [Hid, ByteArray.size_append]; rfl
          have hz2 : Hid (Lib.strCells (q ++ (⟨#[32]⟩ : ByteArray)) = Lib.byteCells (q.data.toList ++ [32])) := by
            rw [Hid, Lib.strCells_eq]
            congr 1
            try simp [ByteArray.data_append, Array.toList_append]
          have hwl : Hid ((Lib.byteCells (bodyL (l.take k))).length + (q ++ (⟨#[32]⟩ : ByteArray)).size ≤ 100000000) := by
            have := hlen.out
            rw [Hid, Lib.byteCells_length, hz1.out]
            omega
          go_wp2_with (first | (go_at_call 69; refine HQ.out.mono ?_; rintro e W1 ⟨rfl, hb1⟩; have HL1 := Lib.hid (bld_below hbl.out hb1); have HA1 := Lib.hid (hA.out.trans (apart_of_below hb1 hbl.out.2.1)); clear hb1) | (go_at_call 68; refine (writeString w.heap.size (w.heap.size + 1) _ _ _ HL1.out hwl.out).mono ?_; rintro e W2 ⟨rfl, hb2, hA2⟩; have HL2 := Lib.hid hb2; have HA2 := Lib.hid (HA1.out.trans hA2); clear hb2 hA2))
          go_roundw
          case rel =>
            refine ⟨k + 1, by omega, by go_num, ?_, HA2⟩
            have := HL2.out
            rw [hz2.out] at this
            rw [Hid, hst.out, Lib.byteCells_append]
            exact this
          case measure => simp [intOf]; omega
        · have hkn : k = n := by omega
          subst hkn
          have htk : l.take k = l := List.take_of_length_le (by rw [hn.out]; exact Nat.le_refl _)
          rw [htk] at hbl hlen
          clear htk
          have hHT := Lib.hid ((hB0.out.trans (hA.out.below (by omega))))
          obtain ⟨B, hB⟩ : ∃ B, Hid (bodyL l = B) := ⟨_, Lib.hid rfl⟩
          rw [hB.out] at hbl hlen
          have hBs : Hid ((⟨B.toArray⟩ : ByteArray).size = B.length) := by rw [Hid]; exact List.size_toArray
          have hBs2 : (⟨B.toArray⟩ : ByteArray).size ≤ 140737488351232 := by have := hlen.out; rw [hBs.out]; omega
          have had : (⟨B.toArray⟩ : ByteArray).data.toList = B := rfl
          have HS := Lib.hid (bstring2 w.heap.size B wr hbl.out)
          have HOF := Lib.hid fun W => of_walk ⟨B.toArray⟩ hBs2 W
          rw [had] at HOF
          clear hBs2 had
          obtain ⟨t, ht⟩ : ∃ t, (⟨B.toArray⟩ : ByteArray) = t := ⟨_, rfl⟩
          rw [ht] at HS HOF
          have hadl := adlOf_lt B
          have HX8 := Lib.hid fun W h1 h2 => SumW.hex_walk (adlOf B) W hadl h1 h2
          obtain ⟨H8, hH8⟩ : ∃ H8, Hid (SumW.hex8 (adlOf B) = H8) := ⟨_, Lib.hid rfl⟩
          rw [hH8.out] at HX8
          have h8l : Hid (H8.size = 8) := by
            rw [Hid, ← hH8.out]
            exact hex8_size _ hadl
          obtain ⟨a, ha⟩ : ∃ a, Hid (adlOf B = a) := ⟨_, Lib.hid rfl⟩
          rw [ha.out] at HOF HX8
          clear hadl ht
          have h8b : H8.size ≤ 8 := by rw [h8l.out]; exact Nat.le_refl 8
          have hz1 : Hid ((H8 ++ (⟨#[10]⟩ : ByteArray)).size = 9) := by rw [Hid, ByteArray.size_append, h8l.out]; rfl
          have hz2 : Hid (Lib.strCells (H8 ++ (⟨#[10]⟩ : ByteArray)) = Lib.byteCells (H8.data.toList ++ [10])) := by
            rw [Hid, Lib.strCells_eq]
            congr 1
            try simp [ByteArray.data_append, Array.toList_append]
          have hwl : Hid ((Lib.byteCells B).length + (H8 ++ (⟨#[10]⟩ : ByteArray)).size ≤ 100000000) := by
            have := hlen.out
            rw [Hid, Lib.byteCells_length, hz1.out]
            omega
          have hline : Hid (lineL l = B ++ H8.data.toList ++ [10]) := by
            rw [Hid]
            unfold lineL
            rw [hB.out, ha.out, ← hH8.out, ha.out]
          have hlt2 : Hid ((B ++ (H8.data.toList ++ [10])).length = (lineL l).length) := by rw [Hid, hline.out, List.append_assoc]
          go_wp2_with (go_at_call 72; refine HS.out.mono ?_)
          rintro e W1 ⟨rfl, hb1, hA1⟩
          have HL1 := Lib.hid hb1
          have HA1 := Lib.hid (hA.out.trans hA1)
          clear hb1 hA1
          go_wp2_with (go_at_call 71; refine (HOF.out _).mono ?_)
          rintro e W2 ⟨rfl, hb2⟩
          have HL2 := Lib.hid (bld_below HL1.out hb2)
          have HA2 := Lib.hid (HA1.out.trans (apart_of_below hb2 HL1.out.2.1))
          have HG2 := Lib.hid (HG.out.below ((hB0.out.trans (HA2.out.below (by omega)))))
          clear hb2
          go_wp2_with (go_at_call 70; refine (HX8.out _ HG2.out.bru HG2.out.big).mono ?_)
          rintro e W3 ⟨rfl, hb3⟩
          have HL3 := Lib.hid (bld_below HL2.out hb3)
          have HA3 := Lib.hid (HA2.out.trans (apart_of_below hb3 HL2.out.2.1))
          clear hb3
          go_wp2_with (go_at_call 68; refine (writeString w.heap.size (w.heap.size + 1) _ _ _ HL3.out hwl.out).mono ?_)
          rintro e W4 ⟨rfl, hb4, hA4⟩
          have HL4 : Hid (Bld w.heap.size (w.heap.size + 1) (Lib.byteCells (B ++ (H8.data.toList ++ [10]))) W4) := by
            rw [hz2.out] at hb4
            rw [Hid, Lib.byteCells_append]
            exact hb4
          have HA4 := Lib.hid (HA3.out.trans hA4)
          clear hb4 hA4
          have HT4 := Lib.hid (hB0.out.trans (HA4.out.below (by omega)))
          have HLEN : Hid (Calls Tryz.prog 73 #[.pointer (some ⟨w.heap.size, 0, none⟩)] W4 fun e w' => e = .returned (.int .i64 ((lineL l).length : Nat)) ∧ W4 = w') := by
            have := blen _ _ _ W4 HL4.out
            rw [Lib.byteCells_length, hlt2.out] at this
            exact this
          obtain ⟨m, hm⟩ : ∃ m, Hid ((lineL l).length = m) := ⟨_, Lib.hid rfl⟩
          rw [hm.out] at HLEN
          by_cases h13 : 13000 < m
          · have HX : Hid (putV l = (⟨#[]⟩, 3)) := by
              rw [Hid, putV, if_neg (by rw [hn.out]; omega), if_neg (by rw [hn.out]; omega), if_pos (by rw [hm.out]; exact h13)]
            go_wp2_with (go_at_call 73; refine HLEN.out.mono ?_; rintro e W5 ⟨rfl, rfl⟩)
            go_ret2
            exact ⟨by rw [HX.out]; rfl, HT4.out⟩
          · have HX : Hid (putV l = (⟨(lineL l).toArray⟩, 0)) := by
              rw [Hid, putV, if_neg (by rw [hn.out]; omega), if_neg (by rw [hn.out]; omega), if_neg (by rw [hm.out]; exact h13)]
            have h13' : m ≤ 13000 := by omega
            have HS4 := Lib.hid (bstring2 w.heap.size (B ++ (H8.data.toList ++ [10])) W4 HL4.out)
            rw [← List.append_assoc, ← hline.out] at HS4
            clear h13
            go_wp2_with (first | (go_at_call 73; refine HLEN.out.mono ?_; rintro e W5 ⟨rfl, rfl⟩) | (go_at_call 72; refine HS4.out.mono ?_; rintro e W6 ⟨rfl, hb6, hA6⟩; have HT6 := Lib.hid (hB0.out.trans ((HA4.out.trans hA6).below (by omega))); clear hb6 hA6))
            go_ret2
            exact ⟨by rw [HX.out]; rfl, HT6.out⟩
end Go.Proofs.YtghbaehbgefpaaaGreatDoor.Hand
open Go
namespace Go.Proofs.YtghbaehbgefpaaaGreatDoor.Spl
def splG (c : UInt8) (cur : List UInt8) : List UInt8 → List (List UInt8)
  | [] => [cur.reverse]
  | b :: t => if b = c then cur.reverse :: splG c [] t else splG c (b :: cur) t
theorem splG_app (c : UInt8) (b : List UInt8) : ∀ a cur : List UInt8, splG c cur (a ++ c :: b) = splG c cur a ++ splG c [] b := by
  intro a
  induction a with
  | nil => intro cur; simp [splG]
  | cons x t ih =>
    intro cur
    simp only [List.cons_append, splG]
    split
    · rw [ih]; rfl
    · exact ih _
theorem splG_len (c : UInt8) : ∀ a cur : List UInt8, (splG c cur a).length = a.count c + 1 := by
  intro a
  induction a with
  | nil => intro cur; rfl
  | cons x t ih =>
    intro cur
    simp only [splG]
    split
    · next h => subst h; rw [List.length_cons, ih, List.count_cons_self]
    · next h => rw [ih, List.count_cons_of_ne (by simpa using h)]
theorem splG_none (c : UInt8) : ∀ a cur : List UInt8, (∀ x ∈ a, x ≠ c) → splG c cur a = [cur.reverse ++ a] := by
  intro a
  induction a with
  | nil => intro cur _; simp [splG]
  | cons x t ih =>
    intro cur h
    rw [splG, if_neg (h x (by simp)), ih _ (fun y hy => h y (by simp [hy]))]
    simp
theorem splG_cur (c : UInt8) : ∀ a cur : List UInt8, ∃ h r, splG c [] a = h :: r ∧ splG c cur a = (cur.reverse ++ h) :: r := by
  intro a
  induction a with
  | nil => intro cur; exact ⟨[], [], rfl, by simp [splG]⟩
  | cons x t ih =>
    intro cur
    simp only [splG]
    split
    · exact ⟨[], splG c [] t, rfl, by simp⟩
    · obtain ⟨h, r, e1, e2⟩ := ih [x]
      obtain ⟨h', r', e1', e2'⟩ := ih (x :: cur)
      rw [e1] at e1'
      injection e1' with q1 q2
      subst q1 q2
      exact ⟨_, _, e2, by rw [e2']; simp⟩
theorem splitK_G (c : UInt8) : ∀ l : List UInt8, Lib.splitK [c] 0 (Lib.count l [c]) l = splG c [] l := by
  intro l
  induction l with
  | nil => rw [Lib.count_miss (by simp [Lib.index])]; rfl
  | cons b t ih =>
    by_cases h : b = c
    · subst h
      have hix : Lib.index (b :: t) [b] = ((0 : Nat) : Int) := by rw [Lib.index]; simp [List.isPrefixOf]
      rw [Lib.count_cons_eq, Nat.add_comm, Lib.splitK, hix]
      simp only [splG, if_true]
      rw [if_neg (by decide)]
      simpa using ih
    · rw [Lib.count_cons_ne b c t h, splG, if_neg h]
      obtain ⟨h1, r1, e1, e2⟩ := splG_cur c t [b]
      rw [e2]
      have hp : ([c] : List UInt8).isPrefixOf (b :: t) = false := by simp [List.isPrefixOf, Ne.symm h]
      have hix : Lib.index (b :: t) [c] = if Lib.index t [c] == -1 then -1 else Lib.index t [c] + 1 := by rw [Lib.index, hp]; simp
      rw [e1] at ih
      by_cases hm : Lib.index t [c] = -1
      · rw [Lib.count_miss hm] at ih ⊢
        simp only [Lib.splitK] at ih ⊢
        injection ih with q1 q2
        subst q1 q2
        simp
      · have hge := Lib.index_ge t [c]
        obtain ⟨j, hj⟩ : ∃ j : Nat, Lib.index t [c] = j := ⟨(Lib.index t [c]).toNat, by omega⟩
        have hix' : Lib.index (b :: t) [c] = ((j + 1 : Nat) : Int) := by rw [hix, if_neg (fun e => hm (beq_iff_eq.1 e)), hj]; omega
        rw [Lib.count_hit (by simp) hj, Nat.add_comm, Lib.splitK] at ih ⊢
        rw [hj, if_neg (by simp)] at ih
        rw [hix', if_neg (by simp; omega)]
        injection ih with q1 q2
        simp only [Int.toNat_natCast, Nat.add_zero, List.length_cons, List.length_nil, Nat.zero_add] at q1 q2 ⊢
        rw [show j + 1 + 1 = (j + 1) + 1 from rfl, List.take_succ_cons, List.drop_succ_cons, q1, q2]
        simp
end Go.Proofs.YtghbaehbgefpaaaGreatDoor.Spl
