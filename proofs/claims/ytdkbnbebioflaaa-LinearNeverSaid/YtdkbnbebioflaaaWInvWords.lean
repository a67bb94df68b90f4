-- Out of what the kit's printer wrote for this seat: the words that this claim stands on.
import Derived.Test.YtdkbnbebioflaaaWInv
import Derived.Test.YtdkbnbebioflaaaWFootNe
namespace Go.Proofs.YtdkbnbebioflaaaW.PrintWords
open Go.RowKit
end Go.Proofs.YtdkbnbebioflaaaW.PrintWords
namespace Go.Proofs.YtdkbnbebioflaaaW.PrintLast
section
variable {ops : Array Oper} {a : Act} {o og : Oper} {g : Nat} {t : Tmp} {u : Bool}
end
end Go.Proofs.YtdkbnbebioflaaaW.PrintLast
