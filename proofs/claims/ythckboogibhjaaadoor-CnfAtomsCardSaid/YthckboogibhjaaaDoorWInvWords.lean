-- Out of what the kit's printer wrote for this seat: the words that this claim stands on.
import Derived.Test.YthckboogibhjaaaDoorWInv
import Derived.Test.YthckboogibhjaaaDoorWFootNe
namespace Go.Proofs.YthckboogibhjaaaDoorW.PrintWords
open Go.RowKit
end Go.Proofs.YthckboogibhjaaaDoorW.PrintWords
namespace Go.Proofs.YthckboogibhjaaaDoorW.PrintLast
section
variable {ops : Array Oper} {a : Act} {o og : Oper} {g : Nat} {t : Tmp} {u : Bool}
end
end Go.Proofs.YthckboogibhjaaaDoorW.PrintLast
