-- fixed by fix_text.py. Written by a program of this session (hprint.py over the kit's print).
import Derived.Test.YtocpfgdajomjiaaDoorL0
import Derived.Test.YtocpfgdajomjiaaDoorL3
import Derived.Test.YtocpfgdajomjiaaDoorHandLine
namespace Go.Proofs.YtocpfgdajomjiaaDoor.L
open Go.Proofs.YtocpfgdajomjiaaDoor.Hand3
open Go.Proofs.YtocpfgdajomjiaaDoor
open Go.RowKit Go.Proofs.YtocpfgdajomjiaaDoorW.PrintWords Go.Proofs.YtocpfgdajomjiaaDoorW.PrintLast Go.Proofs.YtocpfgdajomjiaaDoorW.PrintMore
attribute [local go_sem] max2_int min2_int max_two min_two max_three min_three max_four min_four   -- for this text's walks alone
set_option linter.unusedVariables false
set_option linter.unusedSimpArgs false

/-! ### cooperagelaw4_LineOnce: function 16 -/
def cooperagelaw4_LineOnce.j0 : Nat → ByteArray → Bool → Bool → Option (Bool)
  | 0, _, _, _ => none
  | k + 1, x0, x3, x16 => if x16 = true then (some x3) else ((line_Take.f x0).bind fun bt238 => (if bt238.2.2 = 0 then ((line_Put.f bt238.1).bind fun bt243 => (if bt243.2 = 0 then (if bt243.1.size + bt238.2.1.size ≤ 9223372036854775807 then (some ((bt243.1 ++ bt238.2.1).toList == x0.toList)) else (none)) else (some false))) else (if (bt238.1.length : Int) = 0 then (some (bt238.2.1.toList == ([] : List UInt8))) else (some false))))
def cooperagelaw4_LineOnce.f (k : Nat) (a0 : ByteArray) : Option (Bool) := (cooperagelaw4_shown.f k).bind fun t237 => (if t237 = true then (cooperagelaw4_LineOnce.j0 k a0 t237 (decide ((a0.size : Int) > 14000))) else (cooperagelaw4_LineOnce.j0 k a0 t237 true))

-- GIVEN: text_Quote (function 22)

end Go.Proofs.YtocpfgdajomjiaaDoor.L
