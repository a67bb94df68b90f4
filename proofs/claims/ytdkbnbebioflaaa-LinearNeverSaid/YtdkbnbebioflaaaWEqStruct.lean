-- Out of what the kit's printer wrote for this seat: the words that this claim stands on.
import Derived.Test.YtdkbnbebioflaaaWWords
import Derived.Laws.StructEq
/-! ### 53. '==' of structs as_ one Bool -/
namespace Go.Proofs.YtdkbnbebioflaaaW.PrintWords
open Go.RowKit
section
variable {P : Program} {d : Nat} {xs ys : Array Value} {f : Field} {fs : List Field} {a b : Value} {r s : Bool} {w : World}
end
end Go.Proofs.YtdkbnbebioflaaaW.PrintWords
