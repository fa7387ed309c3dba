-- Printed by this session's xprint.sh (a patched copy of the kit's print program). Not trusted: Lean checks it.
import Derived.Test.YtcnjbmdnnhbfkaaDoorProg
import Derived.Below
import Derived.Deep.Draws
import Derived.Deep.AppendLies
import Derived.Maps.AppendAt
import Derived.OwnWalk
import Derived.Laws.BytesArg
import Derived.Laws.MakeOwn
import Derived.Laws.OwnMore
import Derived.Deep.OwnRows
import Derived.Tactics
import Derived.Lib.ConvBytes
import Derived.Laws.Slices
import Derived.WalkKit
import Derived.KernelRfl
import Derived.RowKit3
import Derived.Deep.LoopGhost
import Derived.Deep.QuietTactic
import Derived.BigQuiet
import Derived.WideLaws
import Derived.Deep.DeepCutAuto
import Derived.Deep.CutBlock
import Derived.Deep.RegionHeld3
import Derived.Laws.Rows
import Derived.Lib.AppendStr
import Derived.ArgAppend
import Derived.Laws.IdiomCopy
import Derived.OrdersHeld
import Derived.Laws.BitsLemmas
import Derived.RowKit
import Derived.Test.YtcnjbmdnnhbfkaaDoorWWords
import Derived.Test.YtcnjbmdnnhbfkaaDoorWLast
import Derived.Test.YtcnjbmdnnhbfkaaDoorWs
import Derived.Test.YtcnjbmdnnhbfkaaDoorWQPut
import Derived.Test.YtcnjbmdnnhbfkaaDoorWApart
import Derived.Test.YtcnjbmdnnhbfkaaDoorWFoot
import Derived.Test.YtcnjbmdnnhbfkaaDoorWKept
import Derived.Test.YtcnjbmdnnhbfkaaDoorWShare
import Derived.Test.YtcnjbmdnnhbfkaaDoorWN
import Derived.Test.YtcnjbmdnnhbfkaaDoorWFootNe
import Derived.Test.YtcnjbmdnnhbfkaaDoorWAt
import Derived.Test.YtcnjbmdnnhbfkaaDoorWEqStruct
import Derived.Test.YtcnjbmdnnhbfkaaDoorWRepsOne
import Derived.Test.YtcnjbmdnnhbfkaaDoorWInv
import Derived.Test.YtcnjbmdnnhbfkaaDoorWInvWords
import Derived.Test.YtcnjbmdnnhbfkaaDoorWGuard
import Derived.Test.YtcnjbmdnnhbfkaaDoorWNEv
import Derived.Test.YtcnjbmdnnhbfkaaDoorWMore
namespace Go.Proofs.YtcnjbmdnnhbfkaaDoor.XL
open Go.RowKit Go.Proofs.YtcnjbmdnnhbfkaaDoorW.PrintWords Go.Proofs.YtcnjbmdnnhbfkaaDoorW.PrintLast Go.Proofs.YtcnjbmdnnhbfkaaDoorW.PrintMore
attribute [local go_sem] max2_int min2_int max_two min_two max_three min_three max_four min_four   -- for this text's walks alone
set_option linter.unusedVariables false
set_option linter.unusedSimpArgs false
def errW : Option Int → Value
 | none => .nilIface
 | some c => .iface 0 (.int .i64 c)
theorem errW_none : errW none = .nilIface := rfl
theorem errW_some (c : Int) : errW (some c) = .iface 0 (.int .i64 c) := rfl
-- the values' own types
end Go.Proofs.YtcnjbmdnnhbfkaaDoor.XL
