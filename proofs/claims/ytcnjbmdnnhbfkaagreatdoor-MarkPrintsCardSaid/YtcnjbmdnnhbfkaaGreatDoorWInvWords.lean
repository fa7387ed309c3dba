import Derived.Test.YtcnjbmdnnhbfkaaGreatDoorWInv
import Derived.Test.YtcnjbmdnnhbfkaaGreatDoorWFootNe
namespace Go.Proofs.YtcnjbmdnnhbfkaaGreatDoorW.PrintWords
open Go.RowKit
end Go.Proofs.YtcnjbmdnnhbfkaaGreatDoorW.PrintWords
namespace Go.Proofs.YtcnjbmdnnhbfkaaGreatDoorW.PrintLast
section
variable {ops : Array Oper} {a : Act} {o og : Oper} {g : Nat} {t : Tmp} {u : Bool}
end
end Go.Proofs.YtcnjbmdnnhbfkaaGreatDoorW.PrintLast
