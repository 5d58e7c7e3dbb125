import Derived.Test.YtocpfgdajomjiaaDoorPureG
import Derived.Lib.ParseIntBCases
/- Plain facts of numerals. -/
namespace Go.Proofs.YtocpfgdajomjiaaDoor.PureR
open Go.RowKit Go.Proofs.YtocpfgdajomjiaaDoor.Hand2
open Go.Proofs.YtocpfgdajomjiaaDoor.Hand hiding text_Lines.f text_Words.f text_Trim.f text_Join.f text_Path.f text_Quote.f text_Lines.calls text_Words.calls text_Trim.calls text_Join.calls text_Path.calls text_Quote.calls Glob
set_option linter.unusedVariables false
set_option linter.unusedSimpArgs false
def val (acc : Nat) (l : List UInt8) : Nat := l.foldl (fun a c => a * 10 + (c.toNat - 48)) acc
theorem ofNat_to (n : Nat) (h : n < 256) : (UInt8.ofNat n).toNat = n := by simp [UInt8.toNat_ofNat']; omega
end Go.Proofs.YtocpfgdajomjiaaDoor.PureR
