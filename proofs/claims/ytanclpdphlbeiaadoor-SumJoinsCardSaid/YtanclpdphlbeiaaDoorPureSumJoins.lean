import Derived.Test.YtanclpdphlbeiaaDoorPureSum
import Derived.Test.YtanclpdphlbeiaaDoorP3
namespace Go.Proofs.YtanclpdphlbeiaaDoor.Pure
open Go.RowKit Go.Proofs.YtanclpdphlbeiaaDoor.P Go.Proofs.YtanclpdphlbeiaaDoor.Hand Go.Proofs.YtanclpdphlbeiaaDoorW.PrintWords

theorem joins_loop (n : Nat) (hn : n < 4294967296) (l : List ByteArray) (hl : l.length ≤ 20) : ∀ (d i k : Nat) (x : ByteArray), l.length - i = d → i ≤ l.length → d < k → x.size ≤ 300 * i →
    cooperagelaw3_SumJoins.l0 k (n : Int) l x ((addv n x : Nat) : Int) (i : Int) = some true ∨ (i = 0 ∧ l.length = 0) := by
  intro d
  induction d with
  | zero =>
    intro i k x hd hi hk hx
    obtain ⟨k, rfl⟩ : ∃ m, k = m + 1 := ⟨k - 1, by omega⟩
    by_cases h0 : l.length = 0
    · right; exact ⟨by omega, h0⟩
    · left
      simp only [cooperagelaw3_SumJoins.l0]
      rw [if_neg (by omega), if_neg (by omega), add_f n x hn (by omega)]
      simp
  | succ d ih =>
    intro i k x hd hi hk hx
    obtain ⟨k, rfl⟩ : ∃ m, k = m + 1 := ⟨k - 1, by omega⟩
    left
    simp only [cooperagelaw3_SumJoins.l0]
    rw [if_pos (by omega), if_pos (by omega)]
    generalize rdOf ByteArray.empty l (i : Int) = y
    by_cases hy : (y.size : Int) > 300
    · rw [if_pos hy]
    · rw [if_neg hy, if_pos (by omega), add_f _ y (addv_lt _ _) (by omega), w64 (x := (i : Int) + 1) (by omega) (by omega)]
      rw [Option.bind_some]
      rw [addv_join, show (i : Int) + 1 = ((i + 1 : Nat) : Int) by omega]
      rcases ih (i + 1) k (x ++ y) (by omega) (by omega) (by omega) (by rw [ByteArray.size_append]; omega) with h | h
      · exact h
      · omega
theorem SumJoins : ∀ (a0 : Int), (Lit.int .u32 a0).wf = true → ∀ (l : List ByteArray), ∃ k, cooperagelaw3_SumJoins.f k a0 l = some true := by
  intro a0 h0 l
  obtain ⟨n, rfl, hn⟩ := wf32 h0
  refine ⟨l.length + 5, ?_⟩
  unfold cooperagelaw3_SumJoins.f
  rw [shown_f]
  rw [Option.bind_some, if_pos rfl]
  by_cases hl : (l.length : Int) > 20
  · rw [decide_eq_true hl]
    simp [cooperagelaw3_SumJoins.j0]
  · rw [decide_eq_false hl]
    simp only [cooperagelaw3_SumJoins.j0]
    rw [if_neg (by decide)]
    by_cases h0 : l.length = 0
    · have : l = [] := List.eq_nil_of_length_eq_zero h0
      subst this
      simp [cooperagelaw3_SumJoins.l0]
    · obtain ⟨k, hk⟩ : ∃ m, l.length + 4 = m + 1 := ⟨l.length + 3, rfl⟩
      rw [hk]
      simp only [cooperagelaw3_SumJoins.l0]
      rw [if_pos (by omega), if_pos (by omega)]
      generalize rdOf ByteArray.empty l 0 = y
      by_cases hy : (y.size : Int) > 300
      · rw [if_pos hy]
      · rw [if_neg hy, if_pos (by show 0 + y.size ≤ _; omega), add_f n y hn (by omega), show wrap64 (0 + 1) = ((1 : Nat) : Int) from (w64 (by decide) (by decide)).trans (by decide)]
        rw [Option.bind_some]
        have e : (⟨#[]⟩ : ByteArray) ++ y = y := by apply ByteArray.ext; simp
        rw [e]
        rcases joins_loop n hn l (by omega) (l.length - 1) 1 k y (by omega) (by omega) (by omega) (by omega) with h | h
        · exact h
        · omega
end Go.Proofs.YtanclpdphlbeiaaDoor.Pure
