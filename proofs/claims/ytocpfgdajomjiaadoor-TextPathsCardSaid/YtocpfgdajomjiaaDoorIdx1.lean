import Derived.Test.YtocpfgdajomjiaaDoorShelf
import Derived.Shelf.Strings.SlTrimAscii
import Derived.Laws.RangeAny
import Derived.Lib.DecodeN
import Derived.Lib.Hide
import Derived.Outline
import Derived.Deep.LoopGhost
import Derived.Stop.FmtQuoteTie
import Derived.Scope
namespace Go.Proofs.YtocpfgdajomjiaaDoor.Hand
open Go.RowKit
set_option linter.unusedVariables false
set_option linter.unusedSimpArgs false

/-! #### strings.IndexAny at " \t", whatever the text -/
theorem get_eq (s : ByteArray) (k : Nat) (h : k < s.size) : s.get! k = s[k]'h := by
  simp [ByteArray.get!, getElem!_pos, h]
  rfl
/-- What is decoded from a byte beyond ASCII: its bytes are all beyond ASCII, and lie in the text. -/
theorem decode_span (s : ByteArray) (i : Nat) (h : i < s.size) (ha : 128 ≤ (s[i]'h).toNat) : i + (Utf8.decode s i).2 ≤ s.size ∧ ∀ j, i ≤ j → j < i + (Utf8.decode s i).2 → ∃ hj : j < s.size, 128 ≤ (s[j]'hj).toNat := by
  have e0 := get_eq s i h
  have key : ∀ k, k < s.size - i → ∃ hj : i + k < s.size, s.get! (i + k) = s[i + k]'hj := fun k hk => ⟨by omega, get_eq s (i + k) (by omega)⟩
  have fin : ∀ w, i + w ≤ s.size → (∀ k, k < w → 128 ≤ (s.get! (i + k)).toNat) → i + w ≤ s.size ∧ ∀ j, i ≤ j → j < i + w → ∃ hj : j < s.size, 128 ≤ (s[j]'hj).toNat := by
    intro w hw hk
    refine ⟨hw, fun j h1 h2 => ?_⟩
    obtain ⟨k, rfl⟩ : ∃ k, j = i + k := ⟨j - i, by omega⟩
    refine ⟨by omega, ?_⟩
    rw [← get_eq s (i + k) (by omega)]
    exact hk k (by omega)
  have h0 : 128 ≤ (s.get! i).toNat := by rw [e0]; exact ha
  rw [Lib.decode_at]
  unfold Lib.decodeN
  rw [if_neg (by omega)]
  have one : ∀ k, k < 1 → 128 ≤ (s.get! (i + k)).toNat := fun k hk => by
    obtain rfl : k = 0 := by omega
    exact h0
  repeat' split
  · rename_i h1 h2
    refine fin 2 (by omega) fun k hk => ?_
    rcases (show k = 0 ∨ k = 1 by omega) with rfl | rfl
    · exact h0
    · omega
  · exact fin 1 (by omega) one
  · rename_i h1 h2 h3
    refine fin 3 (by omega) fun k hk => ?_
    rcases (show k = 0 ∨ k = 1 ∨ k = 2 by omega) with rfl | rfl | rfl
    · exact h0
    · omega
    · omega
  · exact fin 1 (by omega) one
  · rename_i h1 h2 h3 h4
    refine fin 4 (by omega) fun k hk => ?_
    rcases (show k = 0 ∨ k = 1 ∨ k = 2 ∨ k = 3 by omega) with rfl | rfl | rfl | rfl
    · exact h0
    · omega
    · omega
    · omega
  · exact fin 1 (by omega) one
  · exact fin 1 (by omega) one

def blanksB : ByteArray := ⟨#[32, 9]⟩
set_option maxHeartbeats 2000000 in
set_option maxRecDepth 1000000 in
theorem indexRune_err (w : World) :
    Calls Tryd.prog 99 #[.string blanksB, .int .i32 65533] w fun e w' => e = .returned (.int .i64 (-1)) ∧ Below w.heap.size w w' := by
  go_enter Tryd.func99, Tryd.ntmps99
  have h0 : ∀ ty, (Instr.next (.pointer (some ⟨w.heap.size, 0, none⟩)) true ty).run Tryd.prog (w.iter blanksB 0) = .ok (.tuple #[.bool true, .int .i64 (0 : Nat), .int .i32 (32 : Nat)]) (w.iter blanksB (0 + 1)) := fun ty => run_next_ascii (P := Tryd.prog) w blanksB 0 ty (by decide) (by decide)
  have h1 : ∀ ty, (Instr.next (.pointer (some ⟨w.heap.size, 0, none⟩)) true ty).run Tryd.prog (w.iter blanksB 1) = .ok (.tuple #[.bool true, .int .i64 (1 : Nat), .int .i32 (9 : Nat)]) (w.iter blanksB (1 + 1)) := fun ty => run_next_ascii (P := Tryd.prog) w blanksB 1 ty (by decide) (by decide)
  have h2 : ∀ ty, (Instr.next (.pointer (some ⟨w.heap.size, 0, none⟩)) true ty).run Tryd.prog (w.iter blanksB 2) = .ok (.tuple #[.bool false]) (w.iter blanksB 2) := fun ty => run_next_end (P := Tryd.prog) w blanksB 2 ty (by decide)
  go_wp2
  go_loopg [5, 6] 2 (fun g _ _ wx => ∃ i : Nat, i + g = 2 ∧ wx = w.iter blanksB i)
  case atStart => exact ⟨0, rfl, rfl⟩
  case round =>
    obtain ⟨i, hi, rfl⟩ := hrel
    match gk, hi with
    | 0, hi =>
      obtain rfl : i = 2 := by omega
      go_wp2
      go_ret
      exact ⟨rfl, (Below.refl _ _).alloc (Nat.le_refl _) _⟩
    | 1, hi =>
      obtain rfl : i = 1 := by omega
      go_wp2
      go_roundg 0
      case measure => omega
      case rel => exact ⟨2, rfl, rfl⟩
    | 2, hi =>
      obtain rfl : i = 0 := by omega
      go_wp2
      go_roundg 1
      case measure => omega
      case rel => exact ⟨1, rfl, rfl⟩
    | n + 3, hi => omega
end Go.Proofs.YtocpfgdajomjiaaDoor.Hand
