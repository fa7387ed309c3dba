-- PRINTED BY print.sh 35421559b90ae4d0a3588c463048766b98c2df88dd9212a6774a882060cdf62d: not written by this session
import Derived.Test.YtcnjbmdnnhbfkaaDoorWInv
import Derived.Test.YtcnjbmdnnhbfkaaDoorWFootNe
namespace Go.Proofs.YtcnjbmdnnhbfkaaDoorW.PrintWords
open Go.RowKit
end Go.Proofs.YtcnjbmdnnhbfkaaDoorW.PrintWords
namespace Go.Proofs.YtcnjbmdnnhbfkaaDoorW.PrintLast
section
variable {ops : Array Oper} {a : Act} {o og : Oper} {g : Nat} {t : Tmp} {u : Bool}
end
end Go.Proofs.YtcnjbmdnnhbfkaaDoorW.PrintLast
