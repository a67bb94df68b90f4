/-
  No cell of these rows narrows 'for every input' (looked for: loops, veiled, ifaces, maps, wideKeys, modest, calm, conditions, laid).
  DERIVED. THE GIVEN ROWS OF THIS SEAT. 3 by the template 'for every input the law returns true; each argument reads behind the call as it read before'; 0 by the template 'total and deterministic' (their statements: YtdkbnbebioflaaaTotals.lean).
  GIVEN WITH THE SEED: the statements are not yours to turn. If you find one false, say at which input.
  Laid BY PROGRAM, IN A SANDBOX (cutbox-rows.mjs): the forced cells as the released guide's own fill.sh prints them over the translation 3b619321ef2a2448… (all of the seat's roots in one cut). By AI agents, Wed Nov 11 2026. No macro, syntax, notation, axiom, sorry.
-/
import Derived.Test.YtdkbnbebioflaaaChecked
import GoSem.Claim
import GoSem.ClaimJoined
import GoSem.ClaimMapViews
import Derived.JoinedTies
import Derived.KernelRfl
namespace Go.Proofs.Ytdkbnbebioflaaa
/- THE CELL 'sum', in the pinned program and in every row, IS THE sha256 OF THE DUMP (.gsa) THAT YtdkbnbebioflaaaProg.lean LOADS. Nothing in Lean hashes anything: it is a label: what it is worth is what the hold of that sum in a sandbox is worth. -/
noncomputable def Try.pinned : Pinned := { name := "ytdkbnbebioflaaa", sum := "3b619321ef2a2448bf42c14dc601dc77f7e8b52861b487f733dd7ede715a992b", checked := Try.checked }
namespace Rows
def none {H : Type} : Left H := { results := [], args := [] }

/-- 'ashlarlaw11.LinearNever': WHATEVER THE INPUT: true; the input reads as it did. -/
def linearNeverSpec : ChangeSpec := { name := "linearNever", fn := fun _ => fun
  | [d1, d2, d3, d4] => { results := [.lit (.bool true)], args := [d1, d2, d3, d4] }
  | _ => none }
def linearNeverRow : OpenClaim := { program := "ytdkbnbebioflaaa", sum := "3b619321ef2a2448bf42c14dc601dc77f7e8b52861b487f733dd7ede715a992b", func := "ashlar/ashlarlaw11.LinearNever", spec := "linearNever", inPlace := ["math/bits.Add64", "math/bits.Sub64"], unfollowed := true, recurses := true, named := ["math/bits.divideError", "math/bits.overflowError"], apart := false }
def LinearNeverSaid : Prop := linearNeverRow.holds Try.pinned (OpenSpec.ofChange linearNeverSpec)

/-- ITS FALSE NEIGHBOUR: 'it returns false'. Refute it at one input. -/
def linearNeverWrong : ChangeSpec := { name := "linearNever", fn := fun _ => fun
  | [d1, d2, d3, d4] => { results := [.lit (.bool false)], args := [d1, d2, d3, d4] }
  | _ => none }
def LinearNeverWrongFalsely : Prop := linearNeverRow.holds Try.pinned (OpenSpec.ofChange linearNeverWrong)

/-- 'ashlarlaw11.LinearMore': WHATEVER THE INPUT: true; the input reads as it did. -/
def linearMoreSpec : ChangeSpec := { name := "linearMore", fn := fun _ => fun
  | [d1, d2, d3, d4] => { results := [.lit (.bool true)], args := [d1, d2, d3, d4] }
  | _ => none }
def linearMoreRow : OpenClaim := { program := "ytdkbnbebioflaaa", sum := "3b619321ef2a2448bf42c14dc601dc77f7e8b52861b487f733dd7ede715a992b", func := "ashlar/ashlarlaw11.LinearMore", spec := "linearMore", inPlace := ["math/bits.Add64", "math/bits.Sub64"], unfollowed := true, recurses := true, named := ["math/bits.divideError", "math/bits.overflowError"], apart := false }
def LinearMoreSaid : Prop := linearMoreRow.holds Try.pinned (OpenSpec.ofChange linearMoreSpec)

/-- ITS FALSE NEIGHBOUR: 'it returns false'. Refute it at one input. -/
def linearMoreWrong : ChangeSpec := { name := "linearMore", fn := fun _ => fun
  | [d1, d2, d3, d4] => { results := [.lit (.bool false)], args := [d1, d2, d3, d4] }
  | _ => none }
def LinearMoreWrongFalsely : Prop := linearMoreRow.holds Try.pinned (OpenSpec.ofChange linearMoreWrong)

/-- 'ashlarlaw11.LinearWeights': WHATEVER THE INPUT: true; the input reads as it did. -/
def linearWeightsSpec : ChangeSpec := { name := "linearWeights", fn := fun _ => fun
  | [d1, d2, d3] => { results := [.lit (.bool true)], args := [d1, d2, d3] }
  | _ => none }
def linearWeightsRow : OpenClaim := { program := "ytdkbnbebioflaaa", sum := "3b619321ef2a2448bf42c14dc601dc77f7e8b52861b487f733dd7ede715a992b", func := "ashlar/ashlarlaw11.LinearWeights", spec := "linearWeights", inPlace := ["math/bits.Add64", "math/bits.Sub64"], unfollowed := true, recurses := true, named := ["math/bits.divideError", "math/bits.overflowError"], apart := false }
def LinearWeightsSaid : Prop := linearWeightsRow.holds Try.pinned (OpenSpec.ofChange linearWeightsSpec)

/-- ITS FALSE NEIGHBOUR: 'it returns false'. Refute it at one input. -/
def linearWeightsWrong : ChangeSpec := { name := "linearWeights", fn := fun _ => fun
  | [d1, d2, d3] => { results := [.lit (.bool false)], args := [d1, d2, d3] }
  | _ => none }
def LinearWeightsWrongFalsely : Prop := linearWeightsRow.holds Try.pinned (OpenSpec.ofChange linearWeightsWrong)

/- THE SECOND FORM. 'bulk': how many values and letters a reading holds, each counted each time it is reached (what is shared counts as often as it is met; a slice's spare places count too). A statement '..UptoSaid' is the law's where the arguments, and the package variables that the reading takes, are together of bulk at most 1048576: NARROWER than '..Said'. Prove '..Said' where nothing that the law and all that it calls make is longer than what came in: it says more and counts as full. Else prove '..UptoSaid'. A law counts once. -/
mutual
def uptoBulk {H : Type} : DataW H → Nat
  | .lit (.string bytes) => bytes.length + 1
  | .lit _ => 1
  | .nil => 1
  | .ptr d => uptoBulk d + 1
  | .slice elems spare => uptoBulkAll elems + uptoBulkAll spare + 1
  | .agg parts => uptoBulkAll parts + 1
  | .iface _ d => uptoBulk d + 1
  | .map entries => uptoBulkEntries entries + 1
  | .held _ => 1
def uptoBulkAll {H : Type} : List (DataW H) → Nat
  | [] => 0
  | d :: r => uptoBulk d + uptoBulkAll r
def uptoBulkEntries {H : Type} : List (Lit × DataW H) → Nat
  | [] => 0
  | x :: r => uptoBulkEntry x + uptoBulkEntries r
def uptoBulkEntry {H : Type} : Lit × DataW H → Nat
  | (.string bytes, d) => bytes.length + uptoBulk d + 1
  | (_, d) => uptoBulk d + 1
 end
def uptoSmall : (H : Type) → List (DataW H) → Bool := fun _ ds => decide (uptoBulkAll ds ≤ 1048576)
def OpenSpec.upto (s : _root_.Go.ChangeSpec) : _root_.Go.OpenSpec := { _root_.Go.OpenSpec.ofChange s with cond := some uptoSmall }

/-- 'ashlarlaw11.LinearNever', WHERE WHAT IT READS IS OF BULK AT MOST 1048576: true; the input reads as it did. -/
def linearNeverUptoRow : OpenClaim := { program := "ytdkbnbebioflaaa", sum := "3b619321ef2a2448bf42c14dc601dc77f7e8b52861b487f733dd7ede715a992b", func := "ashlar/ashlarlaw11.LinearNever", spec := "linearNever", inPlace := ["math/bits.Add64", "math/bits.Sub64"], unfollowed := true, recurses := true, named := ["math/bits.divideError", "math/bits.overflowError"], apart := false, narrowed := true }
def LinearNeverUptoSaid : Prop := linearNeverUptoRow.holds Try.pinned (OpenSpec.upto linearNeverSpec)

/-- 'ashlarlaw11.LinearMore', WHERE WHAT IT READS IS OF BULK AT MOST 1048576: true; the input reads as it did. -/
def linearMoreUptoRow : OpenClaim := { program := "ytdkbnbebioflaaa", sum := "3b619321ef2a2448bf42c14dc601dc77f7e8b52861b487f733dd7ede715a992b", func := "ashlar/ashlarlaw11.LinearMore", spec := "linearMore", inPlace := ["math/bits.Add64", "math/bits.Sub64"], unfollowed := true, recurses := true, named := ["math/bits.divideError", "math/bits.overflowError"], apart := false, narrowed := true }
def LinearMoreUptoSaid : Prop := linearMoreUptoRow.holds Try.pinned (OpenSpec.upto linearMoreSpec)

/-- 'ashlarlaw11.LinearWeights', WHERE WHAT IT READS IS OF BULK AT MOST 1048576: true; the input reads as it did. -/
def linearWeightsUptoRow : OpenClaim := { program := "ytdkbnbebioflaaa", sum := "3b619321ef2a2448bf42c14dc601dc77f7e8b52861b487f733dd7ede715a992b", func := "ashlar/ashlarlaw11.LinearWeights", spec := "linearWeights", inPlace := ["math/bits.Add64", "math/bits.Sub64"], unfollowed := true, recurses := true, named := ["math/bits.divideError", "math/bits.overflowError"], apart := false, narrowed := true }
def LinearWeightsUptoSaid : Prop := linearWeightsUptoRow.holds Try.pinned (OpenSpec.upto linearWeightsSpec)

end Rows
end Go.Proofs.Ytdkbnbebioflaaa
