import Derived.Test.YtpfnfofaajpdmaaWInv
import Derived.Test.YtpfnfofaajpdmaaWFootNe
namespace Go.Proofs.YtpfnfofaajpdmaaW.PrintWords
open Go.RowKit
end Go.Proofs.YtpfnfofaajpdmaaW.PrintWords
namespace Go.Proofs.YtpfnfofaajpdmaaW.PrintLast
section
variable {ops : Array Oper} {a : Act} {o og : Oper} {g : Nat} {t : Tmp} {u : Bool}
end
end Go.Proofs.YtpfnfofaajpdmaaW.PrintLast
