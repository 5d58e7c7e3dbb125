import Derived.Test.YtanclpdphlbeiaaDoorPureSum
import Derived.Test.YtanclpdphlbeiaaDoorP5
namespace Go.Proofs.YtanclpdphlbeiaaDoor.Pure
open Go.RowKit Go.Proofs.YtanclpdphlbeiaaDoor.P Go.Proofs.YtanclpdphlbeiaaDoor.Hand Go.Proofs.YtanclpdphlbeiaaDoorW.PrintWords

theorem SumHalves : ∀ (a0 : Int), (Lit.int .u32 a0).wf = true → ∀ (a1 : ByteArray), a1.size ≤ 140737488351232 → ∃ k, cooperagelaw3_SumHalves.f k a0 a1 = some true := by
  intro a0 h0 s hs
  obtain ⟨n, rfl, hn⟩ := wf32 h0
  refine ⟨1, ?_⟩
  unfold cooperagelaw3_SumHalves.f
  rw [shown_f]
  rw [Option.bind_some, if_pos rfl]
  by_cases hl : (s.size : Int) > 3000
  · rw [decide_eq_true hl]
    simp [cooperagelaw3_SumHalves.j0]
  · rw [decide_eq_false hl]
    simp only [cooperagelaw3_SumHalves.j0]
    have h := adlStart_lt n
    have h2 := adl_lt s.data.toList _ h.1 h.2
    have e : addv n s = (adl (adlStart n) s.data.toList).2 * 65536 + (adl (adlStart n) s.data.toList).1 := by simp only [addv, adlSum]
    have fA := add_f n s hn hs
    have fB := add_f _ ⟨#[]⟩ (addv_lt n s) (by decide)
    rw [addv_idem] at fB
    generalize addv n s = A at *
    rw [if_neg (by decide), fA]
    rw [Option.bind_some]
    rw [show (65536 : Int) = ((65536 : Nat) : Int) from rfl, tmod_nat, tdiv_nat, if_pos (by omega), if_pos (by omega), fB]
    simp
end Go.Proofs.YtanclpdphlbeiaaDoor.Pure
