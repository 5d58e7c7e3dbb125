import Derived.Test.YtgdanenhbjfhaaaGreatDoorKGlobH
import Derived.Test.YtgdanenhbjfhaaaGreatDoorQ38
/- A row of acts, as a law's start gives it. -/
namespace Go.Proofs.YtgdanenhbjfhaaaGreatDoor.Fr
open Go.RowKit Go.Proofs.YtgdanenhbjfhaaaGreatDoor.F Go.Proofs.YtgdanenhbjfhaaaGreatDoorW.PrintWords
set_option linter.unusedVariables false
def ok34 (a : Ac6) : Prop := (Lit.int .i64 a.f0).wf = true ∧ (Lit.int .i64 a.f1).wf = true ∧ (Lit.int .i64 a.f2).wf = true ∧ a.f3.size ≤ maxLen ∧ a.f5.size ≤ maxLen
theorem acs_of {W : World} {A : Option Addr} {c : Nat} {l : List Ac6} (hC : Kd.C k34 W A l.length l) (hc : l.length ≤ c) (ho : ∀ a ∈ l, ok34 a) : Acs6 W A c l :=
  ⟨hC, hc, fun a ha => ⟨int_wf (ho a ha).1, (int_wf (ho a ha).2.2.1).2⟩⟩
end Go.Proofs.YtgdanenhbjfhaaaGreatDoor.Fr

namespace Go.Proofs.YtgdanenhbjfhaaaGreatDoor.F
open Go.RowKit Go.Proofs.YtgdanenhbjfhaaaGreatDoorW.PrintWords Go.Proofs.YtgdanenhbjfhaaaGreatDoorW.PrintLast Go.Proofs.YtgdanenhbjfhaaaGreatDoorW.PrintMore
theorem k34_mk (w : World) (x : S34) {A4 : Option Addr} {c4 : Nat} (l4 : x.f4.length ≤ c4) (g4 : (Kd.slice 9 Kd.string).C w A4 x.f4.length x.f4) : k34.K w x [.int .i64 x.f0, .int .i64 x.f1, .int .i64 x.f2, .string x.f3, .slice A4 x.f4.length c4, .string x.f5] := ⟨[.int .i64 x.f0], [.int .i64 x.f1, .int .i64 x.f2, .string x.f3, .slice A4 x.f4.length c4, .string x.f5], rfl, rfl, ⟨[.int .i64 x.f1], [.int .i64 x.f2, .string x.f3, .slice A4 x.f4.length c4, .string x.f5], rfl, rfl, ⟨[.int .i64 x.f2], [.string x.f3, .slice A4 x.f4.length c4, .string x.f5], rfl, rfl, ⟨[.string x.f3], [.slice A4 x.f4.length c4, .string x.f5], rfl, rfl, ⟨[.slice A4 x.f4.length c4], [.string x.f5], rfl, ⟨A4, c4, rfl, l4, g4⟩, rfl⟩⟩⟩⟩⟩
end Go.Proofs.YtgdanenhbjfhaaaGreatDoor.F
