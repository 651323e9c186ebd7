-- By the session's own program (wip/gprint.py over the kit's print); Lean checks it.
import Derived.Test.YtljodbbmcgpcnaaProg
import Derived.Below
import Derived.Deep.Draws
import Derived.Deep.AppendLies
import Derived.Maps.AppendAt
import Derived.OwnWalk
import Derived.Laws.BytesArg
import Derived.Laws.MakeOwn
import Derived.Laws.OwnMore
import Derived.Deep.OwnRows
import Derived.Tactics
import Derived.Lib.ConvBytes
import Derived.Laws.Slices
import Derived.WalkKit
import Derived.KernelRfl
import Derived.RowKit3
import Derived.Deep.LoopGhost
import Derived.Deep.QuietTactic
import Derived.BigQuiet
import Derived.WideLaws
import Derived.Deep.DeepCutAuto
import Derived.Deep.CutBlock
import Derived.Deep.RegionHeld3
import Derived.Laws.Rows
import Derived.Lib.AppendStr
import Derived.ArgAppend
import Derived.Laws.IdiomCopy
import Derived.OrdersHeld
import Derived.Laws.BitsLemmas
import Derived.RowKit
import Derived.Test.YtljodbbmcgpcnaaWalk
import Derived.Test.YtljodbbmcgpcnaaWWords
import Derived.Test.YtljodbbmcgpcnaaWLast
import Derived.Test.YtljodbbmcgpcnaaWTab
import Derived.Test.YtljodbbmcgpcnaaWFour
import Derived.Test.YtljodbbmcgpcnaaWQPut
import Derived.Test.YtljodbbmcgpcnaaWApart
import Derived.Test.YtljodbbmcgpcnaaWArr
import Derived.Test.YtljodbbmcgpcnaaWZeros
import Derived.Test.YtljodbbmcgpcnaaWFoot
import Derived.Test.YtljodbbmcgpcnaaWKept
import Derived.Test.YtljodbbmcgpcnaaWShare
import Derived.Test.YtljodbbmcgpcnaaWN
import Derived.Test.YtljodbbmcgpcnaaWFootNe
import Derived.Test.YtljodbbmcgpcnaaWAt
import Derived.Test.YtljodbbmcgpcnaaWEqStruct
import Derived.Test.YtljodbbmcgpcnaaWRepsOne
import Derived.Test.YtljodbbmcgpcnaaWInv
import Derived.Test.YtljodbbmcgpcnaaWInvWords
import Derived.Test.YtljodbbmcgpcnaaWGuard
import Derived.Test.YtljodbbmcgpcnaaWNEv
import Derived.Test.YtljodbbmcgpcnaaWMore
namespace Go.Proofs.Ytljodbbmcgpcnaa.GTextJoins
open Go.RowKit Go.Proofs.YtljodbbmcgpcnaaW.PrintWords Go.Proofs.YtljodbbmcgpcnaaW.PrintLast Go.Proofs.YtljodbbmcgpcnaaW.PrintMore
attribute [local go_sem] max2_int min2_int max_two min_two max_three min_three max_four min_four   -- for this text's walks alone
set_option linter.unusedVariables false
set_option linter.unusedSimpArgs false



def errW : Option Int → Value
  | none => .nilIface
  | some c => .iface 0 (.int .i64 c)
theorem errW_none : errW none = .nilIface := rfl
theorem errW_some (c : Int) : errW (some c) = .iface 0 (.int .i64 c) := rfl

theorem info5 : (Try.prog.info? 5).map (fun i => (i.zero, i.size, i.bytes)) = some (some (.int .u8 0), 1, 1) := by kernel_rfl
-- the values' own types

end Go.Proofs.Ytljodbbmcgpcnaa.GTextJoins
