import Derived.Test.YtnjjnfbkilgidaaDoorQPBench
import Derived.Test.YtnjjnfbkilgidaaDoorQD
/- RecipeBench: walked. -/
namespace Go.Proofs.YtnjjnfbkilgidaaDoor.Fr
open Go.RowKit Go.Proofs.YtnjjnfbkilgidaaDoor.F Go.Proofs.YtnjjnfbkilgidaaDoorW.PrintWords
theorem R_RecipeBench {W : World} (hG : Glob W) (A0 : Option Addr) (c0 : Nat) (l0 : List ByteArray) (h0 : Kd.C Kd.string W A0 l0.length l0) (hc0 : l0.length ≤ c0) (A1 : Option Addr) (c1 : Nat) (l1 : List Fi) (h1 : Fls W A1 c1 l1) (a2 : ByteArray) (w2 : a2.size ≤ 140737488351232) :
    Calls Tryd.prog 7 #[.slice A0 l0.length c0, .slice A1 l1.length c1, .string a2] W fun e w' => e = .returned (.bool true) ∧ Below W.heap.size W w' := by
  obtain ⟨k, h⟩ := Pure.RecipeBench l0 l1 a2 w2
  exact K.cooperagelaw15_RecipeBench.calls k A0 c0 l0 A1 c1 l1 a2 true W hG h0 hc0 h1.1 h1.2 h
end Go.Proofs.YtnjjnfbkilgidaaDoor.Fr
