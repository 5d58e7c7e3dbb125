import Derived.Test.YtnjjnfbkilgidaaDoorQPSays
import Derived.Test.YtnjjnfbkilgidaaDoorQD
/- RecipeSays: walked. -/
namespace Go.Proofs.YtnjjnfbkilgidaaDoor.Fr
open Go.RowKit Go.Proofs.YtnjjnfbkilgidaaDoor.F Go.Proofs.YtnjjnfbkilgidaaDoorW.PrintWords
theorem R_RecipeSays {W : World} (hG : Glob W) (A0 : Option Addr) (c0 : Nat) (l0 : List ByteArray) (h0 : Kd.C Kd.string W A0 l0.length l0) (hc0 : l0.length ≤ c0) :
    Calls Tryd.prog 6 #[.slice A0 l0.length c0] W fun e w' => e = .returned (.bool true) ∧ Below W.heap.size W w' := by
  obtain ⟨k, h⟩ := Pure.RecipeSays l0
  exact K.cooperagelaw15_RecipeSays.calls k A0 c0 l0 true W hG h0 hc0 h
end Go.Proofs.YtnjjnfbkilgidaaDoor.Fr
