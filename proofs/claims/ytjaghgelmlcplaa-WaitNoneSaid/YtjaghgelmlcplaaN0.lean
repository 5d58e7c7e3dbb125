-- Written by programs of this session (hprint.py over the kit's print, kfix.py).
import Derived.Test.YtjaghgelmlcplaaProg
import Derived.Below
import Derived.Deep.Draws
import Derived.Deep.AppendLies
import Derived.Maps.AppendAt
import Derived.OwnWalk
import Derived.Laws.BytesArg
import Derived.Laws.MakeOwn
import Derived.Laws.OwnMore
import Derived.Deep.OwnRows
import Derived.Tactics
import Derived.Lib.ConvBytes
import Derived.Laws.Slices
import Derived.WalkKit
import Derived.KernelRfl
import Derived.RowKit3
import Derived.Deep.LoopGhost
import Derived.Deep.QuietTactic
import Derived.BigQuiet
import Derived.WideLaws
import Derived.Deep.DeepCutAuto
import Derived.Deep.CutBlock
import Derived.Deep.RegionHeld3
import Derived.Laws.Rows
import Derived.Lib.AppendStr
import Derived.ArgAppend
import Derived.Laws.IdiomCopy
import Derived.OrdersHeld
import Derived.Laws.BitsLemmas
import Derived.RowKit
import Derived.Test.YtjaghgelmlcplaaWWords
import Derived.Test.YtjaghgelmlcplaaWLast
import Derived.Test.YtjaghgelmlcplaaWTab
import Derived.Test.YtjaghgelmlcplaaWFour
import Derived.Test.YtjaghgelmlcplaaWQPut
import Derived.Test.YtjaghgelmlcplaaWApart
import Derived.Test.YtjaghgelmlcplaaWArr
import Derived.Test.YtjaghgelmlcplaaWZeros
import Derived.Test.YtjaghgelmlcplaaWFoot
import Derived.Test.YtjaghgelmlcplaaWKept
import Derived.Test.YtjaghgelmlcplaaWShare
import Derived.Test.YtjaghgelmlcplaaWN
import Derived.Test.YtjaghgelmlcplaaWFootNe
import Derived.Test.YtjaghgelmlcplaaWAt
import Derived.Test.YtjaghgelmlcplaaWEqStruct
import Derived.Test.YtjaghgelmlcplaaWRepsOne
import Derived.Test.YtjaghgelmlcplaaWInv
import Derived.Test.YtjaghgelmlcplaaWInvWords
import Derived.Test.YtjaghgelmlcplaaWGuard
import Derived.Test.YtjaghgelmlcplaaWNEv
import Derived.Test.YtjaghgelmlcplaaWMore
import Derived.Test.YtjaghgelmlcplaaWSized
import Derived.Test.YtjaghgelmlcplaaP0
namespace Go.Proofs.Ytjaghgelmlcplaa.N
open Go.Proofs.Ytjaghgelmlcplaa.P (S40 S43 S48 S49 at_T40 at_T43 at_T48 at_T49 errW errW_none errW_some info3 info40 info43 info48 info49 k40 k40_mk k40_mkM k40_open k40_openM k43 k43_mk k43_mkM k43_open k43_openM k48 k48_mk k48_mkM k48_open k48_openM k49 k49_mk k49_mkM k49_open k49_openM rd_T40 rd_T43 rd_T48 rd_T49 z40 z43 z48 z49)
open Go.RowKit Go.Proofs.YtjaghgelmlcplaaW.PrintWords Go.Proofs.YtjaghgelmlcplaaW.PrintLast Go.Proofs.YtjaghgelmlcplaaW.PrintMore
attribute [local go_sem] max2_int min2_int max_two min_two max_three min_three max_four min_four   -- for this text's walks alone
set_option linter.unusedVariables false
set_option linter.unusedSimpArgs false
end Go.Proofs.Ytjaghgelmlcplaa.N
