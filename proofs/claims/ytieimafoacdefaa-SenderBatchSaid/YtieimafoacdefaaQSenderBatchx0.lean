-- Printed by a program of this session (wip/tools/myprint.sh) in the form of print.sh: Clone's contract is proved by hand
import Derived.Test.YtieimafoacdefaaProg
import Derived.Below
import Derived.Deep.Draws
import Derived.Deep.AppendLies
import Derived.Maps.AppendAt
import Derived.OwnWalk
import Derived.Laws.BytesArg
import Derived.Laws.MakeOwn
import Derived.Laws.OwnMore
import Derived.Deep.OwnRows
import Derived.Tactics
import Derived.Lib.ConvBytes
import Derived.Laws.Slices
import Derived.WalkKit
import Derived.KernelRfl
import Derived.RowKit3
import Derived.Deep.LoopGhost
import Derived.Deep.QuietTactic
import Derived.BigQuiet
import Derived.WideLaws
import Derived.Deep.DeepCutAuto
import Derived.Deep.CutBlock
import Derived.Deep.RegionHeld3
import Derived.Laws.Rows
import Derived.Lib.AppendStr
import Derived.ArgAppend
import Derived.Laws.IdiomCopy
import Derived.OrdersHeld
import Derived.Laws.BitsLemmas
import Derived.RowKit
import Derived.Test.YtieimafoacdefaaWWords
import Derived.Test.YtieimafoacdefaaWLast
import Derived.Test.YtieimafoacdefaaWTab
import Derived.Test.YtieimafoacdefaaWFour
import Derived.Test.YtieimafoacdefaaWQPut
import Derived.Test.YtieimafoacdefaaWApart
import Derived.Test.YtieimafoacdefaaWArr
import Derived.Test.YtieimafoacdefaaWZeros
import Derived.Test.YtieimafoacdefaaWFoot
import Derived.Test.YtieimafoacdefaaWKept
import Derived.Test.YtieimafoacdefaaWShare
import Derived.Test.YtieimafoacdefaaWN
import Derived.Test.YtieimafoacdefaaWFootNe
import Derived.Test.YtieimafoacdefaaWAt
import Derived.Test.YtieimafoacdefaaWEqStruct
import Derived.Test.YtieimafoacdefaaWRepsOne
import Derived.Test.YtieimafoacdefaaWInv
import Derived.Test.YtieimafoacdefaaWInvWords
import Derived.Test.YtieimafoacdefaaWGuard
import Derived.Test.YtieimafoacdefaaWNEv
import Derived.Test.YtieimafoacdefaaWMore
namespace Go.Proofs.Ytieimafoacdefaa.QSenderBatch
open Go.RowKit Go.Proofs.YtieimafoacdefaaW.PrintWords Go.Proofs.YtieimafoacdefaaW.PrintLast Go.Proofs.YtieimafoacdefaaW.PrintMore
attribute [local go_sem] max2_int min2_int max_two min_two max_three min_three max_four min_four   -- for this text's walks alone
set_option linter.unusedVariables false
set_option linter.unusedSimpArgs false



def errW : Option Int → Value
  | none => .nilIface
  | some c => .iface 0 (.int .i64 c)
theorem errW_none : errW none = .nilIface := rfl
theorem errW_some (c : Int) : errW (some c) = .iface 0 (.int .i64 c) := rfl

theorem info23 : (Try.prog.info? 23).map (fun i => (i.zero, i.size, i.bytes)) = some (some (.int .u64 0), 1, 8) := by kernel_rfl
-- the values' own types

end Go.Proofs.Ytieimafoacdefaa.QSenderBatch
