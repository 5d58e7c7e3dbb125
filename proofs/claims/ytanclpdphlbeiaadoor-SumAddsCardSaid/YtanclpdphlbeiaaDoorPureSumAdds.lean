import Derived.Test.YtanclpdphlbeiaaDoorPureSum
import Derived.Test.YtanclpdphlbeiaaDoorP2
namespace Go.Proofs.YtanclpdphlbeiaaDoor.Pure
open Go.RowKit Go.Proofs.YtanclpdphlbeiaaDoor.P Go.Proofs.YtanclpdphlbeiaaDoor.Hand Go.Proofs.YtanclpdphlbeiaaDoorW.PrintWords

theorem SumAdds : ∀ (a0 : Int), (Lit.int .u32 a0).wf = true → ∀ (a1 : ByteArray), a1.size ≤ 140737488351232 → ∃ k, cooperagelaw3_SumAdds.f k a0 a1 = some true := by
  intro a0 h0 s hs
  obtain ⟨n, rfl, hn⟩ := wf32 h0
  refine ⟨s.size + 20, ?_⟩
  unfold cooperagelaw3_SumAdds.f
  rw [shown_f]
  rw [Option.bind_some, if_pos rfl]
  obtain ⟨k, hk⟩ : ∃ m, s.size + 20 = m + 1 := ⟨s.size + 19, rfl⟩
  rw [hk]
  by_cases hl : (s.size : Int) > 3000
  · rw [decide_eq_true hl]
    simp [cooperagelaw3_SumAdds.j0]
  · rw [decide_eq_false hl]
    simp only [cooperagelaw3_SumAdds.j0]
    rw [if_neg (by decide), add_f n s hn hs, refAdd_f n s hn hs k (by omega), of_f s hs, refOf_f s hs k (by omega), hex_f n hn, refHex_f n hn k (by omega)]
    simp
end Go.Proofs.YtanclpdphlbeiaaDoor.Pure
