import Derived.Test.YtocpfgdajomjiaaDoorBld
import Derived.Test.YtocpfgdajomjiaaDoorPL1
import Derived.Deep.RegionHeld3
import Derived.Deep.RegionWith
import Derived.RangeFuncRecord
namespace Go.Proofs.YtocpfgdajomjiaaDoor.Hand
open Go.RowKit Go.Proofs.YtocpfgdajomjiaaDoorW.PrintWords
set_option linter.unusedVariables false
set_option linter.unusedSimpArgs false
/-! #### plain -/
def plainI (c : Int) : Bool := decide (65 ≤ c ∧ c ≤ 90) || decide (97 ≤ c ∧ c ≤ 122) || decide (48 ≤ c ∧ c ≤ 57) || decide (c = 95 ∨ c = 45 ∨ c = 46 ∨ c = 47 ∨ c = 43)
theorem plain_tail (c : Int) : (if c = 95 then some true else (if c = 45 then some true else (if c = 46 then some true else (if c = 47 then some true else some (c == 43))))) = some (decide (c = 95 ∨ c = 45 ∨ c = 46 ∨ c = 47 ∨ c = 43)) := by
  by_cases h1 : c = 95
  · simp [h1]
  by_cases h2 : c = 45
  · simp [h2]
  by_cases h3 : c = 46
  · simp [h3]
  by_cases h4 : c = 47
  · simp [h4]
  by_cases h5 : c = 43
  · simp [h5]
  have : (c == 43) = false := by simpa using h5
  simp [h1, h2, h3, h4, h5, this]
theorem plain_f (c : Int) : PL.text_plain.f 5 c = some (plainI c) := by
  unfold PL.text_plain.f plainI
  simp only [PL.text_plain.j0, PL.text_plain.j1, plain_tail]
  generalize decide (c = 95 ∨ c = 45 ∨ c = 46 ∨ c = 47 ∨ c = 43) = t
  by_cases h1 : 65 ≤ c <;> by_cases h2 : c ≤ 90 <;> by_cases h3 : 97 ≤ c <;> by_cases h4 : c ≤ 122 <;> by_cases h5 : 48 ≤ c <;> by_cases h6 : c ≤ 57 <;> simp [h1, h2, h3, h4, h5, h6]
theorem plain_walk (c : Int) (w : World) : Calls Tryd.prog 51 #[.int .u8 c] w fun e w' => e = .returned (.bool (plainI c)) ∧ Drawn0 w w' := PL.text_plain.calls 5 c _ w (plain_f c)

/-! #### Quote -/
def hexD (n : Nat) : UInt8 := if n < 10 then UInt8.ofNat (48 + n) else UInt8.ofNat (55 + n)
def quoteB (c : UInt8) : List UInt8 := if plainI c.toNat = true then [c] else [37, hexD (c.toNat / 16), hexD (c.toNat % 16)]
def quoteV (s : ByteArray) : ByteArray := if s.size = 0 then ⟨#[37]⟩ else ⟨(s.data.toList.flatMap quoteB).toArray⟩
theorem apart_drewN (b B1 : Nat) (w : World) (n : Nat) : Apart b B1 w (w.drewN n) := ⟨rfl, rfl, rfl, Nat.le_refl _, fun _ _ _ => rfl⟩
theorem quote_ne {s : ByteArray} (e : ¬ s = ByteArray.empty) : quoteV s = ⟨(s.data.toList.flatMap quoteB).toArray⟩ := by
  unfold quoteV
  rw [if_neg]
  intro h
  apply e
  have h1 : s.data.toList = [] := List.eq_nil_of_length_eq_zero (by rw [← Lib.size_eq]; exact h)
  cases s with
  | mk d => rw [show d = #[] from Array.ext' h1]; rfl
theorem lit_at (m : Nat) (h : m < 16) : ((⟨#[48, 49, 50, 51, 52, 53, 54, 55, 56, 57, 65, 66, 67, 68, 69, 70]⟩ : ByteArray)[m]'(by show m < 16; exact h)) = hexD m := by
  have : ∀ m : Fin 16, ((⟨#[48, 49, 50, 51, 52, 53, 54, 55, 56, 57, 65, 66, 67, 68, 69, 70]⟩ : ByteArray)[m.1]'(by show m.1 < 16; exact m.2)) = hexD m.1 := by decide
  exact this ⟨m, h⟩
theorem quoteB_len (c : UInt8) : (quoteB c).length ≤ 3 := by
  unfold quoteB
  split <;> simp
theorem quote_len (l : List UInt8) : (l.flatMap quoteB).length ≤ 3 * l.length := by
  induction l with
  | nil => simp
  | cons c t ih =>
    have := quoteB_len c
    rw [List.flatMap_cons, List.length_append, List.length_cons]
    omega
set_option maxHeartbeats 2000000 in
set_option maxRecDepth 100000 in
theorem quote_walk (s : ByteArray) (hs : s.size ≤ 100000) (w : World) : Calls Tryd.prog 22 #[.string s] w fun e w' => e = .returned (.string (quoteV s)) ∧ Below w.heap.size w w' := by
  by_cases e : s = ByteArray.empty
  · subst e
    go_enter Tryd.func22, Tryd.ntmps22
    go_wp2
    go_ret
    exact ⟨rfl, Below.refl _ _⟩
  · have hemp : s.toList.isEmpty = false := by
      rw [Lib.toList_data]
      cases h : s.data.toList with
      | nil => exact absurd (by cases s with | mk d => rw [show d = #[] from Array.ext' h]; rfl) e
      | cons => rfl
    have hcv := fun (W : World) => Lib.run_convert_string_bytes (P := Tryd.prog) W 9 48 5 s Tryd.underlying9 Tryd.underlying48 Tryd.underlying5
    go_enter Tryd.func22, Tryd.ntmps22
    go_wp2
    clear hcv
    obtain ⟨w0, hw0⟩ : ∃ w0, Lib.bytesWorld (w.alloc (Obj.cells #[Value.pointer none, Value.slice none 0 0] 59)) 5 s = w0 := ⟨_, rfl⟩
    have hs0 : w0.heap.size = w.heap.size + 2 := by rw [← hw0, Lib.bytesWorld_size]; simp
    have hcell : Hid (∀ j, j < s.size → w0.cell? ⟨w.heap.size + 1, j, none⟩ = some (.int .u8 (s.data.toList.getD j 0).toNat)) := by
      intro j hj
      rw [← hw0]
      have := Lib.bytesWorld_cell (w.alloc (Obj.cells #[Value.pointer none, Value.slice none 0 0] 59)) 5 s j hj
      simpa using this
    have hB0 : Hid (Below w.heap.size w w0) := by
      rw [Hid, ← hw0]
      exact ((Below.refl _ _).alloc (Nat.le_refl _) _).trans ⟨rfl, rfl, rfl, by rw [Lib.bytesWorld_size]; omega, fun k hk => Lib.bytesWorld_at_old _ 5 s k (by simp; omega)⟩
    have hbl0 : Hid (Bld w.heap.size (w.heap.size + 2) [] w0) := by
      refine ⟨by omega, by rw [hs0]; omega, _, _, .inl rfl, ?_, World.ownsRowF_nil _ _ _ _⟩
      rw [← hw0, Lib.bytesWorld_at_old _ _ _ _ (by simp)]
      exact World.alloc_heap_new w _
    rw [hw0]
    clear hw0
    go_loopw [11] (fun i wr => ∃ (k : Nat), k ≤ s.size ∧ i = .int .i64 k ∧ Hid (Bld w.heap.size (w.heap.size + 2) (Lib.byteCells ((s.data.toList.take k).flatMap quoteB)) wr) ∧ Hid (Apart w.heap.size (w.heap.size + 2) w0 wr))
      (fun i _ => s.size - (intOf i).toNat)
    case atStart => exact ⟨0, Nat.zero_le _, rfl, hbl0, Apart.refl _ _ _⟩
    case round =>
      obtain ⟨k, hk, rfl, hbl, hA⟩ := hrel
      by_cases hlt : k < s.size
      · have hc : wr.cell? ⟨w.heap.size + 1, k, none⟩ = some (.int .u8 (s.data.toList.getD k 0).toNat) := (hA.out.cell (p := ⟨w.heap.size + 1, k, none⟩) (by show w.heap.size + 1 < _; omega) (by show w.heap.size + 1 ≠ _; omega)).trans (hcell.out k hlt)
        have hk' : k < s.data.toList.length := by simpa using hlt
        obtain ⟨c, hcc⟩ : ∃ c, Hid (s.data.toList.getD k 0 = c) := ⟨_, Lib.hid rfl⟩
        rw [hcc.out] at hc
        have hstep : Hid ((s.data.toList.take (k + 1)).flatMap quoteB = (s.data.toList.take k).flatMap quoteB ++ quoteB c) := by
          rw [Hid, List.take_succ_eq_append_getElem hk', List.flatMap_append, ← hcc.out]
          simp [List.getD_eq_getElem?_getD, List.getElem?_eq_getElem hk']
        have hcl := UInt8.toNat_lt c
        generalize hn : c.toNat = n at hc hcl
        cases hp : plainI (n : Int) with
        | true =>
          have hq : Hid (quoteB c = [c]) := by
            rw [Hid, quoteB, hn, hp]
            rfl
          have hlen : Hid ((Lib.byteCells ((s.data.toList.take k).flatMap quoteB)).length + 1 ≤ 100000000) := by
            have h1 := quote_len (s.data.toList.take k)
            have h2 : (s.data.toList.take k).length ≤ k := by rw [List.length_take]; exact Nat.min_le_left _ _
            rw [Hid, Lib.byteCells_length]
            omega
          go_wp2_with (first | (go_at_call 51; refine (plain_walk _ _).mono ?_; rintro e w1 ⟨rfl, ⟨nd, rfl⟩⟩; rw [hp]; have HW := Lib.hid (writeByte w.heap.size (w.heap.size + 2) _ (n : Int) (wr.drewN nd) hbl.out hlen.out)) | (go_at_call 53; refine HW.out.mono ?_; rintro e w2 ⟨rfl, hb2, hA2⟩; have HB2 := Lib.hid hb2; have HA2 := Lib.hid hA2; clear hb2 hA2))
          go_roundw
          case rel =>
            refine ⟨k + 1, by omega, by go_num, ?_, ?_⟩
            · rw [Hid, hstep.out, hq.out, Lib.byteCells_append]
              have := HB2.out
              rw [← hn] at this
              exact this
            · exact (hA.out.trans (apart_drewN _ _ wr nd)).trans HA2.out
          case measure => simp [intOf]; omega
        | false =>
          have hq : Hid (quoteB c = [37, hexD (n / 16), hexD (n % 16)]) := by
            rw [Hid, quoteB, hn, hp]
            rfl
          have hlen : Hid ((Lib.byteCells ((s.data.toList.take k).flatMap quoteB)).length + 3 ≤ 100000000) := by
            have h1 := quote_len (s.data.toList.take k)
            have h2 : (s.data.toList.take k).length ≤ k := by rw [List.length_take]; exact Nat.min_le_left _ _
            rw [Hid, Lib.byteCells_length]
            omega
          generalize hbs : Lib.byteCells ((s.data.toList.take k).flatMap quoteB) = bs at hbl hlen
          have HA0 := hA
          go_wp2_with (first | (go_at_call 51; refine (plain_walk _ _).mono ?_; rintro e w1 ⟨rfl, ⟨nd, rfl⟩⟩; rw [hp]; have HC : Hid (Bld w.heap.size (w.heap.size + 2) bs (wr.drewN nd)) := hbl; have HT : Hid (Apart w.heap.size (w.heap.size + 2) w0 (wr.drewN nd)) := hA.out.trans (apart_drewN _ _ wr nd)) | (go_at_call 53; refine (writeByte w.heap.size (w.heap.size + 2) _ _ _ HC.out (by have := hlen.out; (try simp only [List.length_append, List.length_singleton]); omega)).mono ?_; rintro e w2 ⟨rfl, hb2, hA2⟩; have HC' := Lib.hid hb2; have HT' := Lib.hid (HT.out.trans hA2); clear hb2 hA2 HC HT; have HC := HC'; have HT := HT'; clear HC' HT'))
          go_roundw
          case rel =>
            refine ⟨k + 1, by omega, by go_num, ?_, HT⟩
            rw [Hid, hstep.out, hq.out, Lib.byteCells_append, hbs]
            have h1 := lit_at (n / 16) (by omega)
            have h2 := lit_at (n % 16) (by omega)
            have := HC.out
            rw [h1, h2] at this
            simpa [Lib.byteCells] using this
          case measure => simp [intOf]; omega
      · have HS := Lib.hid (bstring w.heap.size (w.heap.size + 2) _ wr hbl.out)
        have hkk : k = s.size := by omega
        go_wp2_with (go_at_call 54; refine HS.out.mono ?_; rintro e w2 ⟨rfl, hb2⟩)
        go_ret
        refine ⟨?_, hB0.out.trans ((hA.out.below (by omega)).trans hb2)⟩
        rw [quote_ne e]
        have ht : s.data.toList.take s.size = s.data.toList := List.take_of_length_le (by rw [← Lib.size_eq]; exact Nat.le_refl _)
        show _ = Ending.returned (.string ⟨(s.data.toList.flatMap quoteB).toArray⟩)
        have hx : (⟨(s.data.toList.flatMap quoteB).toArray⟩ : ByteArray) = ⟨((s.data.toList.take s.size).flatMap quoteB).toArray⟩ := by rw [ht]
        rw [hx]
        rfl
end Go.Proofs.YtocpfgdajomjiaaDoor.Hand
