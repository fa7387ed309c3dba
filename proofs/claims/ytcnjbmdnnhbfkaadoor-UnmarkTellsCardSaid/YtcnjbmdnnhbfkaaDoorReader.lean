/- The reader in plain Lean: lines read one behind the other. -/
import Derived.Test.YtcnjbmdnnhbfkaaDoorUnmark5
namespace Go.Proofs.YtcnjbmdnnhbfkaaDoor.Unmark
open Go.RowKit Go.Proofs.YtcnjbmdnnhbfkaaDoorW.PrintWords Go.Proofs.YtcnjbmdnnhbfkaaDoorW.PrintLast Go.Proofs.YtcnjbmdnnhbfkaaDoor.XD Go.Proofs.YtcnjbmdnnhbfkaaDoor.Size
end Go.Proofs.YtcnjbmdnnhbfkaaDoor.Unmark
