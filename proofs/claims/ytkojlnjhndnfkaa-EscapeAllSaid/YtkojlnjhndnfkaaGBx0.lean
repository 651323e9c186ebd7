-- By the session's own program (wip/gprint.py over the kit's print); Lean checks it.
import Derived.Test.YtkojlnjhndnfkaaProg
import Derived.Below
import Derived.Deep.Draws
import Derived.Deep.AppendLies
import Derived.Maps.AppendAt
import Derived.OwnWalk
import Derived.Laws.BytesArg
import Derived.Laws.MakeOwn
import Derived.Laws.OwnMore
import Derived.Deep.OwnRows
import Derived.Tactics
import Derived.Lib.ConvBytes
import Derived.Laws.Slices
import Derived.WalkKit
import Derived.KernelRfl
import Derived.RowKit3
import Derived.Deep.LoopGhost
import Derived.Deep.QuietTactic
import Derived.BigQuiet
import Derived.WideLaws
import Derived.Deep.DeepCutAuto
import Derived.Deep.CutBlock
import Derived.Deep.RegionHeld3
import Derived.Laws.Rows
import Derived.Lib.AppendStr
import Derived.ArgAppend
import Derived.Laws.IdiomCopy
import Derived.OrdersHeld
import Derived.Laws.BitsLemmas
import Derived.RowKit
import Derived.Test.YtkojlnjhndnfkaaWWords
import Derived.Test.YtkojlnjhndnfkaaWLast
import Derived.Test.YtkojlnjhndnfkaaWTab
import Derived.Test.YtkojlnjhndnfkaaWFour
import Derived.Test.YtkojlnjhndnfkaaWQPut
import Derived.Test.YtkojlnjhndnfkaaWApart
import Derived.Test.YtkojlnjhndnfkaaWArr
import Derived.Test.YtkojlnjhndnfkaaWZeros
import Derived.Test.YtkojlnjhndnfkaaWFoot
import Derived.Test.YtkojlnjhndnfkaaWKept
import Derived.Test.YtkojlnjhndnfkaaWShare
import Derived.Test.YtkojlnjhndnfkaaWN
import Derived.Test.YtkojlnjhndnfkaaWFootNe
import Derived.Test.YtkojlnjhndnfkaaWAt
import Derived.Test.YtkojlnjhndnfkaaWEqStruct
import Derived.Test.YtkojlnjhndnfkaaWRepsOne
import Derived.Test.YtkojlnjhndnfkaaWInv
import Derived.Test.YtkojlnjhndnfkaaWInvWords
import Derived.Test.YtkojlnjhndnfkaaWGuard
import Derived.Test.YtkojlnjhndnfkaaWNEv
import Derived.Test.YtkojlnjhndnfkaaWMore
namespace Go.Proofs.Ytkojlnjhndnfkaa.GB
open Go.RowKit Go.Proofs.YtkojlnjhndnfkaaW.PrintWords Go.Proofs.YtkojlnjhndnfkaaW.PrintLast Go.Proofs.YtkojlnjhndnfkaaW.PrintMore
attribute [local go_sem] max2_int min2_int max_two min_two max_three min_three max_four min_four   -- for this text's walks alone
set_option linter.unusedVariables false
set_option linter.unusedSimpArgs false



def errW : Option Int → Value
  | none => .nilIface
  | some c => .iface 0 (.int .i64 c)
theorem errW_none : errW none = .nilIface := rfl
theorem errW_some (c : Int) : errW (some c) = .iface 0 (.int .i64 c) := rfl

theorem info5 : (Try.prog.info? 5).map (fun i => (i.zero, i.size, i.bytes)) = some (some (.int .u8 0), 1, 1) := by kernel_rfl
-- the values' own types

end Go.Proofs.Ytkojlnjhndnfkaa.GB
