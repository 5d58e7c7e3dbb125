-- fixed by fix_text.py. Written by a program of this session (hprint.py over the kit's print).
import Derived.Test.YtocpfgdajomjiaaDoorR0
import Derived.Test.YtocpfgdajomjiaaDoorTextB
namespace Go.Proofs.YtocpfgdajomjiaaDoor.R
open Go.Proofs.YtocpfgdajomjiaaDoor.Hand2
open Go.Proofs.YtocpfgdajomjiaaDoor
open Go.RowKit Go.Proofs.YtocpfgdajomjiaaDoorW.PrintWords Go.Proofs.YtocpfgdajomjiaaDoorW.PrintLast Go.Proofs.YtocpfgdajomjiaaDoorW.PrintMore
attribute [local go_sem] max2_int min2_int max_two min_two max_three min_three max_four min_four   -- for this text's walks alone
set_option linter.unusedVariables false
set_option linter.unusedSimpArgs false

-- GIVEN: text_Lines (function 20)

-- GIVEN: text_Path (function 21)

-- GIVEN: text_Quote (function 22)

/-! ### cooperagelaw1_same: function 23 -/

-- GIVEN: text_Words (function 24)

end Go.Proofs.YtocpfgdajomjiaaDoor.R
