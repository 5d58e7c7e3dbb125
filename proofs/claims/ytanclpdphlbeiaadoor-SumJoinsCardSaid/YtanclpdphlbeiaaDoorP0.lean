-- Written by a program of this session (hprint.py over the kit's print).
import Derived.Test.YtanclpdphlbeiaaDoorProg
import Derived.Below
import Derived.Deep.Draws
import Derived.Deep.AppendLies
import Derived.Maps.AppendAt
import Derived.OwnWalk
import Derived.Laws.BytesArg
import Derived.Laws.MakeOwn
import Derived.Laws.OwnMore
import Derived.Deep.OwnRows
import Derived.Tactics
import Derived.Lib.ConvBytes
import Derived.Laws.Slices
import Derived.WalkKit
import Derived.KernelRfl
import Derived.RowKit3
import Derived.Deep.LoopGhost
import Derived.Deep.QuietTactic
import Derived.BigQuiet
import Derived.WideLaws
import Derived.Deep.DeepCutAuto
import Derived.Deep.CutBlock
import Derived.Deep.RegionHeld3
import Derived.Laws.Rows
import Derived.Lib.AppendStr
import Derived.ArgAppend
import Derived.Laws.IdiomCopy
import Derived.OrdersHeld
import Derived.Laws.BitsLemmas
import Derived.RowKit
import Derived.Test.YtanclpdphlbeiaaDoorWWords
import Derived.Test.YtanclpdphlbeiaaDoorWLast
import Derived.Test.YtanclpdphlbeiaaDoorWTab
import Derived.Test.YtanclpdphlbeiaaDoorWFour
import Derived.Test.YtanclpdphlbeiaaDoorWQPut
import Derived.Test.YtanclpdphlbeiaaDoorWApart
import Derived.Test.YtanclpdphlbeiaaDoorWArr
import Derived.Test.YtanclpdphlbeiaaDoorWZeros
import Derived.Test.YtanclpdphlbeiaaDoorWFoot
import Derived.Test.YtanclpdphlbeiaaDoorWKept
import Derived.Test.YtanclpdphlbeiaaDoorWShare
import Derived.Test.YtanclpdphlbeiaaDoorWN
import Derived.Test.YtanclpdphlbeiaaDoorWFootNe
import Derived.Test.YtanclpdphlbeiaaDoorWAt
import Derived.Test.YtanclpdphlbeiaaDoorWEqStruct
import Derived.Test.YtanclpdphlbeiaaDoorWRepsOne
import Derived.Test.YtanclpdphlbeiaaDoorWInv
import Derived.Test.YtanclpdphlbeiaaDoorWInvWords
import Derived.Test.YtanclpdphlbeiaaDoorWGuard
import Derived.Test.YtanclpdphlbeiaaDoorWNEv
import Derived.Test.YtanclpdphlbeiaaDoorWMore
import Derived.Test.YtanclpdphlbeiaaDoorWSized
import Derived.Test.YtanclpdphlbeiaaDoorHandSum
namespace Go.Proofs.YtanclpdphlbeiaaDoor.P
open Go.Proofs.YtanclpdphlbeiaaDoor.Hand
open Go.Proofs.YtanclpdphlbeiaaDoor
open Go.RowKit Go.Proofs.YtanclpdphlbeiaaDoorW.PrintWords Go.Proofs.YtanclpdphlbeiaaDoorW.PrintLast Go.Proofs.YtanclpdphlbeiaaDoorW.PrintMore
attribute [local go_sem] max2_int min2_int max_two min_two max_three min_three max_four min_four   -- for this text's walks alone
set_option linter.unusedVariables false
set_option linter.unusedSimpArgs false



def errW : Option Int → Value
  | none => .nilIface
  | some c => .iface 0 (.int .i64 c)
theorem errW_none : errW none = .nilIface := rfl
theorem errW_some (c : Int) : errW (some c) = .iface 0 (.int .i64 c) := rfl

theorem info5 : (Tryd.prog.info? 5).map (fun i => (i.zero, i.size, i.bytes)) = some (some (.int .u8 0), 1, 1) := by kernel_rfl
-- the values' own types

end Go.Proofs.YtanclpdphlbeiaaDoor.P
