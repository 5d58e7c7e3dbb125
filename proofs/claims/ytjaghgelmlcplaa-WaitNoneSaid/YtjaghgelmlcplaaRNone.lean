import Derived.Test.YtjaghgelmlcplaaNone
import Derived.Test.YtjaghgelmlcplaaPureNone
/- WaitNone: walked. -/
namespace Go.Proofs.Ytjaghgelmlcplaa.Fr
open Go.RowKit Go.Proofs.Ytjaghgelmlcplaa.P Go.Proofs.YtjaghgelmlcplaaW.PrintWords
def ok43 (a : S43) : Prop := Pure.ok43 a
/-- A parameter of edges. -/
structure Eds (W : World) (A : Option Addr) (c : Nat) (l : List S43) : Prop where
  C : Kd.C k43 W A l.length l
  cap : l.length ≤ c
  ok : ∀ a ∈ l, Pure.ok43 a
theorem acs_of {W : World} {A : Option Addr} {c : Nat} {l : List S43} (hC : Kd.C k43 W A l.length l) (hc : l.length ≤ c) (ho : ∀ a ∈ l, ok43 a) : Eds W A c l := ⟨hC, hc, ho⟩
theorem R_WaitNone {W : World} (A0 : Option Addr) (c0 : Nat) (l0 : List S43) (h0 : Eds W A0 c0 l0) (a1 : Int) (w1 : (Lit.int .i64 a1).wf = true) :
    Calls Try.prog 6 #[.slice A0 l0.length c0, .int .i64 a1] W fun e w' => e = .returned (.bool true) ∧ Below W.heap.size W w' := by
  obtain ⟨k, h⟩ := Pure.WaitNone l0 h0.ok a1 w1
  exact N.cooperagelaw17_WaitNone.calls k A0 c0 l0 a1 W h0.C h0.cap h
end Go.Proofs.Ytjaghgelmlcplaa.Fr
