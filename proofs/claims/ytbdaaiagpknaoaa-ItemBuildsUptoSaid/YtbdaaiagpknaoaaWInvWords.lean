import Derived.Test.YtbdaaiagpknaoaaWInv
import Derived.Test.YtbdaaiagpknaoaaWFootNe
namespace Go.Proofs.YtbdaaiagpknaoaaW.PrintWords
open Go.RowKit
end Go.Proofs.YtbdaaiagpknaoaaW.PrintWords
namespace Go.Proofs.YtbdaaiagpknaoaaW.PrintLast
section
variable {ops : Array Oper} {a : Act} {o og : Oper} {g : Nat} {t : Tmp} {u : Bool}
end
end Go.Proofs.YtbdaaiagpknaoaaW.PrintLast
