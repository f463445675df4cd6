import Derived.Test.YtnkdopihaohimaaWInv
import Derived.Test.YtnkdopihaohimaaWFootNe
namespace Go.Proofs.YtnkdopihaohimaaW.PrintWords
open Go.RowKit
end Go.Proofs.YtnkdopihaohimaaW.PrintWords
namespace Go.Proofs.YtnkdopihaohimaaW.PrintLast
section
variable {ops : Array Oper} {a : Act} {o og : Oper} {g : Nat} {t : Tmp} {u : Bool}
end
end Go.Proofs.YtnkdopihaohimaaW.PrintLast
