-- By the session's own program (wip/gprint.py over the kit's print); Lean checks it.
import Derived.Test.YtaaeidlekmeaiaaProg
import Derived.Below
import Derived.Deep.Draws
import Derived.Deep.AppendLies
import Derived.Maps.AppendAt
import Derived.OwnWalk
import Derived.Laws.BytesArg
import Derived.Laws.MakeOwn
import Derived.Laws.OwnMore
import Derived.Deep.OwnRows
import Derived.Tactics
import Derived.Lib.ConvBytes
import Derived.Laws.Slices
import Derived.WalkKit
import Derived.KernelRfl
import Derived.RowKit3
import Derived.Deep.LoopGhost
import Derived.Deep.QuietTactic
import Derived.BigQuiet
import Derived.WideLaws
import Derived.Deep.DeepCutAuto
import Derived.Deep.CutBlock
import Derived.Deep.RegionHeld3
import Derived.Laws.Rows
import Derived.Lib.AppendStr
import Derived.ArgAppend
import Derived.Laws.IdiomCopy
import Derived.OrdersHeld
import Derived.Laws.BitsLemmas
import Derived.RowKit
import Derived.Test.YtaaeidlekmeaiaaWWords
import Derived.Test.YtaaeidlekmeaiaaWLast
import Derived.Test.YtaaeidlekmeaiaaWTab
import Derived.Test.YtaaeidlekmeaiaaWFour
import Derived.Test.YtaaeidlekmeaiaaWQPut
import Derived.Test.YtaaeidlekmeaiaaWApart
import Derived.Test.YtaaeidlekmeaiaaWArr
import Derived.Test.YtaaeidlekmeaiaaWZeros
import Derived.Test.YtaaeidlekmeaiaaWFoot
import Derived.Test.YtaaeidlekmeaiaaWKept
import Derived.Test.YtaaeidlekmeaiaaWShare
import Derived.Test.YtaaeidlekmeaiaaWN
import Derived.Test.YtaaeidlekmeaiaaWFootNe
import Derived.Test.YtaaeidlekmeaiaaWAt
import Derived.Test.YtaaeidlekmeaiaaWEqStruct
import Derived.Test.YtaaeidlekmeaiaaWRepsOne
import Derived.Test.YtaaeidlekmeaiaaWInv
import Derived.Test.YtaaeidlekmeaiaaWInvWords
import Derived.Test.YtaaeidlekmeaiaaWGuard
import Derived.Test.YtaaeidlekmeaiaaWNEv
import Derived.Test.YtaaeidlekmeaiaaWMore
namespace Go.Proofs.Ytaaeidlekmeaiaa.GB
open Go.RowKit Go.Proofs.YtaaeidlekmeaiaaW.PrintWords Go.Proofs.YtaaeidlekmeaiaaW.PrintLast Go.Proofs.YtaaeidlekmeaiaaW.PrintMore
attribute [local go_sem] max2_int min2_int max_two min_two max_three min_three max_four min_four   -- for this text's walks alone
set_option linter.unusedVariables false
set_option linter.unusedSimpArgs false



def errW : Option Int → Value
  | none => .nilIface
  | some c => .iface 0 (.int .i64 c)
theorem errW_none : errW none = .nilIface := rfl
theorem errW_some (c : Int) : errW (some c) = .iface 0 (.int .i64 c) := rfl

theorem info5 : (Try.prog.info? 5).map (fun i => (i.zero, i.size, i.bytes)) = some (some (.int .u8 0), 1, 1) := by kernel_rfl
-- the values' own types

end Go.Proofs.Ytaaeidlekmeaiaa.GB
