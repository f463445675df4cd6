import Derived.Test.YtjiljpddkfcdbaaGreatDoorWInv
import Derived.Test.YtjiljpddkfcdbaaGreatDoorWFootNe
namespace Go.Proofs.YtjiljpddkfcdbaaGreatDoorW.PrintWords
open Go.RowKit
end Go.Proofs.YtjiljpddkfcdbaaGreatDoorW.PrintWords
namespace Go.Proofs.YtjiljpddkfcdbaaGreatDoorW.PrintLast
section
variable {ops : Array Oper} {a : Act} {o og : Oper} {g : Nat} {t : Tmp} {u : Bool}
end
end Go.Proofs.YtjiljpddkfcdbaaGreatDoorW.PrintLast
