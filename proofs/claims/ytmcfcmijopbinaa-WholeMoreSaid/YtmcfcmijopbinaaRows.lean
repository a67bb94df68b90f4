/-
  No cell of these rows narrows 'for every input' (looked for: loops, veiled, ifaces, maps, wideKeys, modest, calm, conditions, laid).
  DERIVED. THE GIVEN ROWS OF THIS SEAT. 3 by the template 'for every input the law returns true; each argument reads behind the call as it read before'; 0 by the template 'total and deterministic' (their statements: YtmcfcmijopbinaaTotals.lean).
  GIVEN WITH THE SEED: the statements are not yours to turn. If you find one false, say at which input.
  Laid BY PROGRAM, IN A SANDBOX (cutbox-rows.mjs): the forced cells as the released guide's own fill.sh prints them over the translation 9aab7d771feb1a08… (all of the seat's roots in one cut). By AI agents, Wed Nov 11 2026. No macro, syntax, notation, axiom, sorry.
-/
import Derived.Test.YtmcfcmijopbinaaChecked
import GoSem.Claim
import GoSem.ClaimJoined
import GoSem.ClaimMapViews
import Derived.JoinedTies
import Derived.KernelRfl
namespace Go.Proofs.Ytmcfcmijopbinaa
/- THE CELL 'sum', in the pinned program and in every row, IS THE sha256 OF THE DUMP (.gsa) THAT YtmcfcmijopbinaaProg.lean LOADS. Nothing in Lean hashes anything: it is a label: what it is worth is what the hold of that sum in a sandbox is worth. -/
noncomputable def Try.pinned : Pinned := { name := "ytmcfcmijopbinaa", sum := "9aab7d771feb1a0861082cf9caa135291ee72eaf3a6107552595d170c802cba6", checked := Try.checked }
namespace Rows
def none {H : Type} : Left H := { results := [], args := [] }

/-- 'ashlarlaw12.WholeMore': WHATEVER THE INPUT: true; the input reads as it did. -/
def wholeMoreSpec : ChangeSpec := { name := "wholeMore", fn := fun _ => fun
  | [d1, d2, d3] => { results := [.lit (.bool true)], args := [d1, d2, d3] }
  | _ => none }
def wholeMoreRow : OpenClaim := { program := "ytmcfcmijopbinaa", sum := "9aab7d771feb1a0861082cf9caa135291ee72eaf3a6107552595d170c802cba6", func := "ashlar/ashlarlaw12.WholeMore", spec := "wholeMore", inPlace := ["math/bits.Add64", "math/bits.Sub64"], unfollowed := true, recurses := true, named := ["math/bits.divideError", "math/bits.overflowError"], apart := false }
def WholeMoreSaid : Prop := wholeMoreRow.holds Try.pinned (OpenSpec.ofChange wholeMoreSpec)

/-- ITS FALSE NEIGHBOUR: 'it returns false'. Refute it at one input. -/
def wholeMoreWrong : ChangeSpec := { name := "wholeMore", fn := fun _ => fun
  | [d1, d2, d3] => { results := [.lit (.bool false)], args := [d1, d2, d3] }
  | _ => none }
def WholeMoreWrongFalsely : Prop := wholeMoreRow.holds Try.pinned (OpenSpec.ofChange wholeMoreWrong)

/-- 'ashlarlaw12.WholeTimes': WHATEVER THE INPUT: true; the input reads as it did. -/
def wholeTimesSpec : ChangeSpec := { name := "wholeTimes", fn := fun _ => fun
  | [d1, d2, d3] => { results := [.lit (.bool true)], args := [d1, d2, d3] }
  | _ => none }
def wholeTimesRow : OpenClaim := { program := "ytmcfcmijopbinaa", sum := "9aab7d771feb1a0861082cf9caa135291ee72eaf3a6107552595d170c802cba6", func := "ashlar/ashlarlaw12.WholeTimes", spec := "wholeTimes", inPlace := ["math/bits.Add64", "math/bits.Sub64"], unfollowed := true, recurses := true, named := ["math/bits.divideError", "math/bits.overflowError"], apart := false }
def WholeTimesSaid : Prop := wholeTimesRow.holds Try.pinned (OpenSpec.ofChange wholeTimesSpec)

/-- ITS FALSE NEIGHBOUR: 'it returns false'. Refute it at one input. -/
def wholeTimesWrong : ChangeSpec := { name := "wholeTimes", fn := fun _ => fun
  | [d1, d2, d3] => { results := [.lit (.bool false)], args := [d1, d2, d3] }
  | _ => none }
def WholeTimesWrongFalsely : Prop := wholeTimesRow.holds Try.pinned (OpenSpec.ofChange wholeTimesWrong)

/-- 'ashlarlaw12.WholePoint': WHATEVER THE INPUT: true; the input reads as it did. -/
def wholePointSpec : ChangeSpec := { name := "wholePoint", fn := fun _ => fun
  | [d] => { results := [.lit (.bool true)], args := [d] }
  | _ => none }
def wholePointRow : OpenClaim := { program := "ytmcfcmijopbinaa", sum := "9aab7d771feb1a0861082cf9caa135291ee72eaf3a6107552595d170c802cba6", func := "ashlar/ashlarlaw12.WholePoint", spec := "wholePoint", inPlace := ["math/bits.Add64", "math/bits.Sub64"], unfollowed := true, recurses := true, named := ["math/bits.divideError", "math/bits.overflowError"], apart := false }
def WholePointSaid : Prop := wholePointRow.holds Try.pinned (OpenSpec.ofChange wholePointSpec)

/-- ITS FALSE NEIGHBOUR: 'it returns false'. Refute it at one input. -/
def wholePointWrong : ChangeSpec := { name := "wholePoint", fn := fun _ => fun
  | [d] => { results := [.lit (.bool false)], args := [d] }
  | _ => none }
def WholePointWrongFalsely : Prop := wholePointRow.holds Try.pinned (OpenSpec.ofChange wholePointWrong)

/- THE SECOND FORM. 'bulk': how many values and letters a reading holds, each counted each time it is reached (what is shared counts as often as it is met; a slice's spare places count too). A statement '..UptoSaid' is the law's where the arguments, and the package variables that the reading takes, are together of bulk at most 1048576: NARROWER than '..Said'. Prove '..Said' where nothing that the law and all that it calls make is longer than what came in: it says more and counts as full. Else prove '..UptoSaid'. A law counts once. -/
mutual
def uptoBulk {H : Type} : DataW H → Nat
  | .lit (.string bytes) => bytes.length + 1
  | .lit _ => 1
  | .nil => 1
  | .ptr d => uptoBulk d + 1
  | .slice elems spare => uptoBulkAll elems + uptoBulkAll spare + 1
  | .agg parts => uptoBulkAll parts + 1
  | .iface _ d => uptoBulk d + 1
  | .map entries => uptoBulkEntries entries + 1
  | .held _ => 1
def uptoBulkAll {H : Type} : List (DataW H) → Nat
  | [] => 0
  | d :: r => uptoBulk d + uptoBulkAll r
def uptoBulkEntries {H : Type} : List (Lit × DataW H) → Nat
  | [] => 0
  | x :: r => uptoBulkEntry x + uptoBulkEntries r
def uptoBulkEntry {H : Type} : Lit × DataW H → Nat
  | (.string bytes, d) => bytes.length + uptoBulk d + 1
  | (_, d) => uptoBulk d + 1
 end
def uptoSmall : (H : Type) → List (DataW H) → Bool := fun _ ds => decide (uptoBulkAll ds ≤ 1048576)
def OpenSpec.upto (s : _root_.Go.ChangeSpec) : _root_.Go.OpenSpec := { _root_.Go.OpenSpec.ofChange s with cond := some uptoSmall }

/-- 'ashlarlaw12.WholeMore', WHERE WHAT IT READS IS OF BULK AT MOST 1048576: true; the input reads as it did. -/
def wholeMoreUptoRow : OpenClaim := { program := "ytmcfcmijopbinaa", sum := "9aab7d771feb1a0861082cf9caa135291ee72eaf3a6107552595d170c802cba6", func := "ashlar/ashlarlaw12.WholeMore", spec := "wholeMore", inPlace := ["math/bits.Add64", "math/bits.Sub64"], unfollowed := true, recurses := true, named := ["math/bits.divideError", "math/bits.overflowError"], apart := false, narrowed := true }
def WholeMoreUptoSaid : Prop := wholeMoreUptoRow.holds Try.pinned (OpenSpec.upto wholeMoreSpec)

/-- 'ashlarlaw12.WholeTimes', WHERE WHAT IT READS IS OF BULK AT MOST 1048576: true; the input reads as it did. -/
def wholeTimesUptoRow : OpenClaim := { program := "ytmcfcmijopbinaa", sum := "9aab7d771feb1a0861082cf9caa135291ee72eaf3a6107552595d170c802cba6", func := "ashlar/ashlarlaw12.WholeTimes", spec := "wholeTimes", inPlace := ["math/bits.Add64", "math/bits.Sub64"], unfollowed := true, recurses := true, named := ["math/bits.divideError", "math/bits.overflowError"], apart := false, narrowed := true }
def WholeTimesUptoSaid : Prop := wholeTimesUptoRow.holds Try.pinned (OpenSpec.upto wholeTimesSpec)

/-- 'ashlarlaw12.WholePoint', WHERE WHAT IT READS IS OF BULK AT MOST 1048576: true; the input reads as it did. -/
def wholePointUptoRow : OpenClaim := { program := "ytmcfcmijopbinaa", sum := "9aab7d771feb1a0861082cf9caa135291ee72eaf3a6107552595d170c802cba6", func := "ashlar/ashlarlaw12.WholePoint", spec := "wholePoint", inPlace := ["math/bits.Add64", "math/bits.Sub64"], unfollowed := true, recurses := true, named := ["math/bits.divideError", "math/bits.overflowError"], apart := false, narrowed := true }
def WholePointUptoSaid : Prop := wholePointUptoRow.holds Try.pinned (OpenSpec.upto wholePointSpec)

end Rows
end Go.Proofs.Ytmcfcmijopbinaa
