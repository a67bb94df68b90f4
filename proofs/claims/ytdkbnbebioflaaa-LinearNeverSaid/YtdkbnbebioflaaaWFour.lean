-- Out of what the kit's printer wrote for this seat: the words that this claim stands on.
import Derived.Test.YtdkbnbebioflaaaWTab
/-! ### 56. Four, five, six operations that may come up next, in any order -/
namespace Go.Proofs.YtdkbnbebioflaaaW.PrintLast
section
variable {P : Program} {ops : Array Oper} {Q : Exit → Act → World → Prop} {md : Region.Mode} {S : World → Prop} {ds : List Nat} {T : Bool × List (List Nat × List Nat)}
end
end Go.Proofs.YtdkbnbebioflaaaW.PrintLast
