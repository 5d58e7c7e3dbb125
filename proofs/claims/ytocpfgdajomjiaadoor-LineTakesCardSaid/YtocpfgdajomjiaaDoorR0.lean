-- fixed by fix_text.py. Written by a program of this session (hprint.py over the kit's print).
import Derived.Test.YtocpfgdajomjiaaDoorProg
import Derived.Below
import Derived.Deep.Draws
import Derived.Deep.AppendLies
import Derived.Maps.AppendAt
import Derived.OwnWalk
import Derived.Laws.BytesArg
import Derived.Laws.MakeOwn
import Derived.Laws.OwnMore
import Derived.Deep.OwnRows
import Derived.Tactics
import Derived.Lib.ConvBytes
import Derived.Laws.Slices
import Derived.WalkKit
import Derived.KernelRfl
import Derived.RowKit3
import Derived.Deep.LoopGhost
import Derived.Deep.QuietTactic
import Derived.BigQuiet
import Derived.WideLaws
import Derived.Deep.DeepCutAuto
import Derived.Deep.CutBlock
import Derived.Deep.RegionHeld3
import Derived.Laws.Rows
import Derived.Lib.AppendStr
import Derived.ArgAppend
import Derived.Laws.IdiomCopy
import Derived.OrdersHeld
import Derived.Laws.BitsLemmas
import Derived.RowKit
import Derived.Test.YtocpfgdajomjiaaDoorWWords
import Derived.Test.YtocpfgdajomjiaaDoorWLast
import Derived.Test.YtocpfgdajomjiaaDoorWTab
import Derived.Test.YtocpfgdajomjiaaDoorWFour
import Derived.Test.YtocpfgdajomjiaaDoorWQPut
import Derived.Test.YtocpfgdajomjiaaDoorWApart
import Derived.Test.YtocpfgdajomjiaaDoorWArr
import Derived.Test.YtocpfgdajomjiaaDoorWZeros
import Derived.Test.YtocpfgdajomjiaaDoorWFoot
import Derived.Test.YtocpfgdajomjiaaDoorWKept
import Derived.Test.YtocpfgdajomjiaaDoorWShare
import Derived.Test.YtocpfgdajomjiaaDoorWN
import Derived.Test.YtocpfgdajomjiaaDoorWFootNe
import Derived.Test.YtocpfgdajomjiaaDoorWAt
import Derived.Test.YtocpfgdajomjiaaDoorWEqStruct
import Derived.Test.YtocpfgdajomjiaaDoorWRepsOne
import Derived.Test.YtocpfgdajomjiaaDoorWInv
import Derived.Test.YtocpfgdajomjiaaDoorWInvWords
import Derived.Test.YtocpfgdajomjiaaDoorWGuard
import Derived.Test.YtocpfgdajomjiaaDoorWNEv
import Derived.Test.YtocpfgdajomjiaaDoorWMore
import Derived.Test.YtocpfgdajomjiaaDoorWSized
namespace Go.Proofs.YtocpfgdajomjiaaDoor.R
open Go.RowKit Go.Proofs.YtocpfgdajomjiaaDoorW.PrintWords Go.Proofs.YtocpfgdajomjiaaDoorW.PrintLast Go.Proofs.YtocpfgdajomjiaaDoorW.PrintMore
attribute [local go_sem] max2_int min2_int max_two min_two max_three min_three max_four min_four   -- for this text's walks alone
set_option linter.unusedVariables false
set_option linter.unusedSimpArgs false



def errW : Option Int → Value
  | none => .nilIface
  | some c => .iface 0 (.int .i64 c)
theorem errW_none : errW none = .nilIface := rfl
theorem errW_some (c : Int) : errW (some c) = .iface 0 (.int .i64 c) := rfl

theorem info5 : (Tryd.prog.info? 5).map (fun i => (i.zero, i.size, i.bytes)) = some (some (.int .u8 0), 1, 1) := by kernel_rfl
theorem info9 : (Tryd.prog.info? 9).map (fun i => (i.zero, i.size, i.bytes)) = some (some (.string ⟨#[]⟩), 1, 16) := by kernel_rfl
-- the values' own types

end Go.Proofs.YtocpfgdajomjiaaDoor.R
