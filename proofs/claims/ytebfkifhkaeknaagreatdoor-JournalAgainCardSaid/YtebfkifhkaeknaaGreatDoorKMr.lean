import Derived.Test.YtebfkifhkaeknaaGreatDoorQC
/- What the merged base lacks (prune.py struck it: no journal text comes to it): for the laws' walks. -/
namespace Go.Proofs.YtebfkifhkaeknaaGreatDoor.Fr
open Go.RowKit Go.Proofs.YtebfkifhkaeknaaGreatDoor.F Go.Proofs.YtebfkifhkaeknaaGreatDoorW.PrintWords
set_option linter.unusedVariables false
theorem cell_lt {w : World} {a : Addr} {u : Value} (h : w.cell? a = some u) : a.block < w.heap.size := by
  unfold World.cell? at h
  cases e : w.heap[a.block]? with
  | none => rw [e] at h; cases h
  | some o => exact (Array.getElem?_eq_some_iff.1 e).1
set_option maxHeartbeats 1000000 in
set_option maxRecDepth 100000 in
theorem pending_call {φ : Phi} {p : Nat} {T : TS} {A : Nat → Prop} (w : World) (hT : Tr w φ p T A) : Calls Tryz.prog 21 #[.pointer (some ⟨p, 0, none⟩)] w fun e w' => e = .returned (.int .i64 T.ch.length) ∧ w = w' := by
  obtain ⟨bn, bl, v, h⟩ := hT
  obtain ⟨a, c, rfl⟩ := h.slice
  have c4 := h.c4
  clear h
  go_enter Tryz.func21, Tryz.ntmps21
  go_wp2
  go_ret
  exact ⟨rfl, rfl⟩
theorem Sts.Pending {K : Nat → Prop} {L : List (Nat × TS)} {m p i : Nat} {T Tm : TS} {W : World} (h : Sts K L m Tm W) (hi : L[i]? = some (p, T)) : Calls Tryz.prog 21 #[.pointer (some ⟨p, 0, none⟩)] W fun e w' => e = .returned (.int .i64 T.ch.length) ∧ W = w' := by
  obtain ⟨φ, A, ht⟩ := h.tr hi
  exact pending_call W ht
end Go.Proofs.YtebfkifhkaeknaaGreatDoor.Fr
