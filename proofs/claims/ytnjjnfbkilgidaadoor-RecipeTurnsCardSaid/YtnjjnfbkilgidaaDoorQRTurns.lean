import Derived.Test.YtnjjnfbkilgidaaDoorQPTurns
import Derived.Test.YtnjjnfbkilgidaaDoorQD
/- RecipeTurns: walked. -/
namespace Go.Proofs.YtnjjnfbkilgidaaDoor.Fr
open Go.RowKit Go.Proofs.YtnjjnfbkilgidaaDoor.F Go.Proofs.YtnjjnfbkilgidaaDoorW.PrintWords
theorem R_RecipeTurns {W : World} (hG : Glob W) (a0 : ByteArray) (w0 : a0.size ≤ 140737488351232) :
    Calls Tryd.prog 4 #[.string a0] W fun e w' => e = .returned (.bool true) ∧ Below W.heap.size W w' := by
  obtain ⟨k, h⟩ := Pure.RecipeTurns a0 w0
  exact K.cooperagelaw15_RecipeTurns.calls k a0 true W hG h
end Go.Proofs.YtnjjnfbkilgidaaDoor.Fr
