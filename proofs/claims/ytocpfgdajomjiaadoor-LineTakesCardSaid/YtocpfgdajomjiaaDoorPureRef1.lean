import Derived.Test.YtocpfgdajomjiaaDoorPureG
import Derived.Test.YtocpfgdajomjiaaDoorR4
/- The reference's plain bytes. -/
namespace Go.Proofs.YtocpfgdajomjiaaDoor.PureR
open Go.RowKit Go.Proofs.YtocpfgdajomjiaaDoor.R Go.Proofs.YtocpfgdajomjiaaDoor.Hand2 Go.Proofs.YtocpfgdajomjiaaDoorW.PrintWords Go.Proofs.YtocpfgdajomjiaaDoor.Spl
open Go.Proofs.YtocpfgdajomjiaaDoor.Hand hiding text_Lines.f text_Words.f text_Trim.f text_Join.f text_Path.f text_Quote.f text_Lines.calls text_Words.calls text_Trim.calls text_Join.calls text_Path.calls text_Quote.calls Glob
set_option linter.unusedVariables false
set_option linter.unusedSimpArgs false
theorem plain_f : ∀ n : Fin 256, cooperageref1_plain.f ((n.val : Nat) : Int) = some (plainI ((n.val : Nat) : Int)) := by decide +kernel
theorem plain_at (s : ByteArray) (i : Nat) (h : i < s.data.toList.length) : cooperageref1_plain.f (bt s (i : Int)) = some (plainI (s.data.toList[i]).toNat) := by
  rw [bt_nat s i h]
  exact plain_f ⟨(s.data.toList[i]).toNat, UInt8.toNat_lt _⟩
theorem drop_at {l : List UInt8} {i : Nat} (h : i < l.length) : l.drop i = l[i] :: l.drop (i + 1) := List.drop_eq_getElem_cons h
theorem ext_one (s : ByteArray) (i : Nat) (h : i < s.data.toList.length) : (s.extract i (i + 1)).data.toList = [s.data.toList[i]] := by
  rw [Lib.extract_data, List.drop_eq_getElem_cons h, show i + 1 - i = 1 by omega]
  rfl
theorem w64z {i : Nat} (h : i ≤ 100000000000) : (wrap64 ((i : Int) + 1)).toNat = i + 1 := by rw [w64s i h]; omega
end Go.Proofs.YtocpfgdajomjiaaDoor.PureR
