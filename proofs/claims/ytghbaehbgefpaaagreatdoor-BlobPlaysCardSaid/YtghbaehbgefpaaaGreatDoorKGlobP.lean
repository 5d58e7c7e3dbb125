import Derived.Test.YtghbaehbgefpaaaGreatDoorKGlobH
import Derived.Test.YtghbaehbgefpaaaGreatDoorQ39
/- A row of acts, as a law's start gives it. -/
namespace Go.Proofs.YtghbaehbgefpaaaGreatDoor.Fr
open Go.RowKit Go.Proofs.YtghbaehbgefpaaaGreatDoor.F Go.Proofs.YtghbaehbgefpaaaGreatDoorW.PrintWords
set_option linter.unusedVariables false
def ok53 (a : Ac7) : Prop := (Lit.int .i64 a.f0).wf = true ∧ (Lit.int .i64 a.f1).wf = true ∧ (Lit.int .i64 a.f2).wf = true ∧ a.f3.size ≤ maxLen
theorem acs_of {W : World} {A : Option Addr} {c : Nat} {l : List Ac7} (hC : Kd.C k53 W A l.length l) (hc : l.length ≤ c) (ho : ∀ a ∈ l, ok53 a) : Acs7 W A c l :=
  ⟨hC, hc, fun a ha => ⟨int_wf (ho a ha).1, (int_wf (ho a ha).2.2.1).2⟩⟩
end Go.Proofs.YtghbaehbgefpaaaGreatDoor.Fr

namespace Go.Proofs.YtghbaehbgefpaaaGreatDoor.F
open Go.RowKit Go.Proofs.YtghbaehbgefpaaaGreatDoorW.PrintWords Go.Proofs.YtghbaehbgefpaaaGreatDoorW.PrintLast Go.Proofs.YtghbaehbgefpaaaGreatDoorW.PrintMore
theorem k53_mk (w : World) (x : S53) {A4 : Option Addr} {c4 : Nat} (l4 : x.f4.length ≤ c4) (g4 : Kd.string.C w A4 x.f4.length x.f4) : k53.K w x [.int .i64 x.f0, .int .i64 x.f1, .int .i64 x.f2, .string x.f3, .slice A4 x.f4.length c4] := ⟨[.int .i64 x.f0], [.int .i64 x.f1, .int .i64 x.f2, .string x.f3, .slice A4 x.f4.length c4], rfl, rfl, ⟨[.int .i64 x.f1], [.int .i64 x.f2, .string x.f3, .slice A4 x.f4.length c4], rfl, rfl, ⟨[.int .i64 x.f2], [.string x.f3, .slice A4 x.f4.length c4], rfl, rfl, ⟨[.string x.f3], [.slice A4 x.f4.length c4], rfl, rfl, ⟨A4, c4, rfl, l4, g4⟩⟩⟩⟩⟩
end Go.Proofs.YtghbaehbgefpaaaGreatDoor.F
