import Derived.Test.YtjppjlhhdfkloaaWInv
import Derived.Test.YtjppjlhhdfkloaaWFootNe
namespace Go.Proofs.YtjppjlhhdfkloaaW.PrintWords
open Go.RowKit
end Go.Proofs.YtjppjlhhdfkloaaW.PrintWords
namespace Go.Proofs.YtjppjlhhdfkloaaW.PrintLast
section
variable {ops : Array Oper} {a : Act} {o og : Oper} {g : Nat} {t : Tmp} {u : Bool}
end
end Go.Proofs.YtjppjlhhdfkloaaW.PrintLast
