/-
  No cell of these rows narrows 'for every input' (looked for: loops, veiled, ifaces, maps, wideKeys, modest, calm, conditions, laid).
  DERIVED. THE GIVEN ROWS OF THIS SEAT. 11 by the template 'for every input the law returns true; each argument reads behind the call as it read before'; 0 by the template 'total and deterministic' (their statements: YtnggikhpnophgaaTotals.lean).
  GIVEN WITH THE SEED: the statements are not yours to turn. If you find one false, say at which input.
  Laid BY PROGRAM, IN A SANDBOX (cutbox-rows.mjs): the forced cells as the released guide's own fill.sh prints them over the translation 96aabf92b4024e1e… (all of the seat's roots in one cut). By AI agents, Wed Nov 11 2026. No macro, syntax, notation, axiom, sorry.
-/
import Derived.Test.YtnggikhpnophgaaChecked
import GoSem.Claim
import GoSem.ClaimJoined
import GoSem.ClaimMapViews
import Derived.JoinedTies
import Derived.KernelRfl
namespace Go.Proofs.Ytnggikhpnophgaa
/- THE CELL 'sum', in the pinned program and in every row, IS THE sha256 OF THE DUMP (.gsa) THAT YtnggikhpnophgaaProg.lean LOADS. Nothing in Lean hashes anything: it is a label: what it is worth is what the hold of that sum in a sandbox is worth. -/
noncomputable def Try.pinned : Pinned := { name := "ytnggikhpnophgaa", sum := "96aabf92b4024e1e2335f905d121d6e07d7c801d925511627de3e6201a4a9cbe", checked := Try.checked }
namespace Rows
def none {H : Type} : Left H := { results := [], args := [] }

/-- 'ashlarlaw01.NumMakes': WHATEVER THE INPUT: true; the input reads as it did. -/
def numMakesSpec : ChangeSpec := { name := "numMakes", fn := fun _ => fun
  | [d1, d2] => { results := [.lit (.bool true)], args := [d1, d2] }
  | _ => none }
def numMakesRow : OpenClaim := { program := "ytnggikhpnophgaa", sum := "96aabf92b4024e1e2335f905d121d6e07d7c801d925511627de3e6201a4a9cbe", func := "ashlar/ashlarlaw01.NumMakes", spec := "numMakes", inPlace := ["math/bits.Add64", "math/bits.Sub64"], unfollowed := true, recurses := true, named := ["math/bits.divideError", "math/bits.overflowError"], apart := false }
def NumMakesSaid : Prop := numMakesRow.holds Try.pinned (OpenSpec.ofChange numMakesSpec)

/-- ITS FALSE NEIGHBOUR: 'it returns false'. Refute it at one input. -/
def numMakesWrong : ChangeSpec := { name := "numMakes", fn := fun _ => fun
  | [d1, d2] => { results := [.lit (.bool false)], args := [d1, d2] }
  | _ => none }
def NumMakesWrongFalsely : Prop := numMakesRow.holds Try.pinned (OpenSpec.ofChange numMakesWrong)

/-- 'ashlarlaw01.NumRounds': WHATEVER THE INPUT: true; the input reads as it did. -/
def numRoundsSpec : ChangeSpec := { name := "numRounds", fn := fun _ => fun
  | [d1, d2] => { results := [.lit (.bool true)], args := [d1, d2] }
  | _ => none }
def numRoundsRow : OpenClaim := { program := "ytnggikhpnophgaa", sum := "96aabf92b4024e1e2335f905d121d6e07d7c801d925511627de3e6201a4a9cbe", func := "ashlar/ashlarlaw01.NumRounds", spec := "numRounds", inPlace := ["math/bits.Add64", "math/bits.Sub64"], unfollowed := true, recurses := true, named := ["math/bits.divideError", "math/bits.overflowError"], apart := false }
def NumRoundsSaid : Prop := numRoundsRow.holds Try.pinned (OpenSpec.ofChange numRoundsSpec)

/-- ITS FALSE NEIGHBOUR: 'it returns false'. Refute it at one input. -/
def numRoundsWrong : ChangeSpec := { name := "numRounds", fn := fun _ => fun
  | [d1, d2] => { results := [.lit (.bool false)], args := [d1, d2] }
  | _ => none }
def NumRoundsWrongFalsely : Prop := numRoundsRow.holds Try.pinned (OpenSpec.ofChange numRoundsWrong)

/-- 'ashlarlaw01.NumOrder': WHATEVER THE INPUT: true; the input reads as it did. -/
def numOrderSpec : ChangeSpec := { name := "numOrder", fn := fun _ => fun
  | [d1, d2, d3, d4, d5, d6] => { results := [.lit (.bool true)], args := [d1, d2, d3, d4, d5, d6] }
  | _ => none }
def numOrderRow : OpenClaim := { program := "ytnggikhpnophgaa", sum := "96aabf92b4024e1e2335f905d121d6e07d7c801d925511627de3e6201a4a9cbe", func := "ashlar/ashlarlaw01.NumOrder", spec := "numOrder", inPlace := ["math/bits.Add64", "math/bits.Sub64"], unfollowed := true, recurses := true, named := ["math/bits.divideError", "math/bits.overflowError"], apart := false }
def NumOrderSaid : Prop := numOrderRow.holds Try.pinned (OpenSpec.ofChange numOrderSpec)

/-- ITS FALSE NEIGHBOUR: 'it returns false'. Refute it at one input. -/
def numOrderWrong : ChangeSpec := { name := "numOrder", fn := fun _ => fun
  | [d1, d2, d3, d4, d5, d6] => { results := [.lit (.bool false)], args := [d1, d2, d3, d4, d5, d6] }
  | _ => none }
def NumOrderWrongFalsely : Prop := numOrderRow.holds Try.pinned (OpenSpec.ofChange numOrderWrong)

/-- 'ashlarlaw01.NumDivides': WHATEVER THE INPUT: true; the input reads as it did. -/
def numDividesSpec : ChangeSpec := { name := "numDivides", fn := fun _ => fun
  | [d1, d2] => { results := [.lit (.bool true)], args := [d1, d2] }
  | _ => none }
def numDividesRow : OpenClaim := { program := "ytnggikhpnophgaa", sum := "96aabf92b4024e1e2335f905d121d6e07d7c801d925511627de3e6201a4a9cbe", func := "ashlar/ashlarlaw01.NumDivides", spec := "numDivides", inPlace := ["math/bits.Add64", "math/bits.Sub64"], unfollowed := true, recurses := true, named := ["math/bits.divideError", "math/bits.overflowError"], apart := false }
def NumDividesSaid : Prop := numDividesRow.holds Try.pinned (OpenSpec.ofChange numDividesSpec)

/-- ITS FALSE NEIGHBOUR: 'it returns false'. Refute it at one input. -/
def numDividesWrong : ChangeSpec := { name := "numDivides", fn := fun _ => fun
  | [d1, d2] => { results := [.lit (.bool false)], args := [d1, d2] }
  | _ => none }
def NumDividesWrongFalsely : Prop := numDividesRow.holds Try.pinned (OpenSpec.ofChange numDividesWrong)

/-- 'ashlarlaw01.NumTurned': WHATEVER THE INPUT: true; the input reads as it did. -/
def numTurnedSpec : ChangeSpec := { name := "numTurned", fn := fun _ => fun
  | [d1, d2, d3] => { results := [.lit (.bool true)], args := [d1, d2, d3] }
  | _ => none }
def numTurnedRow : OpenClaim := { program := "ytnggikhpnophgaa", sum := "96aabf92b4024e1e2335f905d121d6e07d7c801d925511627de3e6201a4a9cbe", func := "ashlar/ashlarlaw01.NumTurned", spec := "numTurned", inPlace := ["math/bits.Add64", "math/bits.Sub64"], unfollowed := true, recurses := true, named := ["math/bits.divideError", "math/bits.overflowError"], apart := false }
def NumTurnedSaid : Prop := numTurnedRow.holds Try.pinned (OpenSpec.ofChange numTurnedSpec)

/-- ITS FALSE NEIGHBOUR: 'it returns false'. Refute it at one input. -/
def numTurnedWrong : ChangeSpec := { name := "numTurned", fn := fun _ => fun
  | [d1, d2, d3] => { results := [.lit (.bool false)], args := [d1, d2, d3] }
  | _ => none }
def NumTurnedWrongFalsely : Prop := numTurnedRow.holds Try.pinned (OpenSpec.ofChange numTurnedWrong)

/-- 'ashlarlaw01.NumWhole': WHATEVER THE INPUT: true; the input reads as it did. -/
def numWholeSpec : ChangeSpec := { name := "numWhole", fn := fun _ => fun
  | [d1, d2] => { results := [.lit (.bool true)], args := [d1, d2] }
  | _ => none }
def numWholeRow : OpenClaim := { program := "ytnggikhpnophgaa", sum := "96aabf92b4024e1e2335f905d121d6e07d7c801d925511627de3e6201a4a9cbe", func := "ashlar/ashlarlaw01.NumWhole", spec := "numWhole", inPlace := ["math/bits.Add64", "math/bits.Sub64"], unfollowed := true, recurses := true, named := ["math/bits.divideError", "math/bits.overflowError"], apart := false }
def NumWholeSaid : Prop := numWholeRow.holds Try.pinned (OpenSpec.ofChange numWholeSpec)

/-- ITS FALSE NEIGHBOUR: 'it returns false'. Refute it at one input. -/
def numWholeWrong : ChangeSpec := { name := "numWhole", fn := fun _ => fun
  | [d1, d2] => { results := [.lit (.bool false)], args := [d1, d2] }
  | _ => none }
def NumWholeWrongFalsely : Prop := numWholeRow.holds Try.pinned (OpenSpec.ofChange numWholeWrong)

/-- 'ashlarlaw01.NumEnds': WHATEVER THE INPUT: true; the input reads as it did. -/
def numEndsSpec : ChangeSpec := { name := "numEnds", fn := fun _ => fun
  | [d1, d2] => { results := [.lit (.bool true)], args := [d1, d2] }
  | _ => none }
def numEndsRow : OpenClaim := { program := "ytnggikhpnophgaa", sum := "96aabf92b4024e1e2335f905d121d6e07d7c801d925511627de3e6201a4a9cbe", func := "ashlar/ashlarlaw01.NumEnds", spec := "numEnds", inPlace := ["math/bits.Add64", "math/bits.Sub64"], unfollowed := true, recurses := true, named := ["math/bits.divideError", "math/bits.overflowError"], apart := false }
def NumEndsSaid : Prop := numEndsRow.holds Try.pinned (OpenSpec.ofChange numEndsSpec)

/-- ITS FALSE NEIGHBOUR: 'it returns false'. Refute it at one input. -/
def numEndsWrong : ChangeSpec := { name := "numEnds", fn := fun _ => fun
  | [d1, d2] => { results := [.lit (.bool false)], args := [d1, d2] }
  | _ => none }
def NumEndsWrongFalsely : Prop := numEndsRow.holds Try.pinned (OpenSpec.ofChange numEndsWrong)

/-- 'ashlarlaw01.NumThree': WHATEVER THE INPUT: true; the input reads as it did. -/
def numThreeSpec : ChangeSpec := { name := "numThree", fn := fun _ => fun
  | [d1, d2, d3, d4, d5, d6] => { results := [.lit (.bool true)], args := [d1, d2, d3, d4, d5, d6] }
  | _ => none }
def numThreeRow : OpenClaim := { program := "ytnggikhpnophgaa", sum := "96aabf92b4024e1e2335f905d121d6e07d7c801d925511627de3e6201a4a9cbe", func := "ashlar/ashlarlaw01.NumThree", spec := "numThree", inPlace := ["math/bits.Add64", "math/bits.Sub64"], unfollowed := true, recurses := true, named := ["math/bits.divideError", "math/bits.overflowError"], apart := false }
def NumThreeSaid : Prop := numThreeRow.holds Try.pinned (OpenSpec.ofChange numThreeSpec)

/-- ITS FALSE NEIGHBOUR: 'it returns false'. Refute it at one input. -/
def numThreeWrong : ChangeSpec := { name := "numThree", fn := fun _ => fun
  | [d1, d2, d3, d4, d5, d6] => { results := [.lit (.bool false)], args := [d1, d2, d3, d4, d5, d6] }
  | _ => none }
def NumThreeWrongFalsely : Prop := numThreeRow.holds Try.pinned (OpenSpec.ofChange numThreeWrong)

/-- 'ashlarlaw01.NumReckons': WHATEVER THE INPUT: true; the input reads as it did. -/
def numReckonsSpec : ChangeSpec := { name := "numReckons", fn := fun _ => fun
  | [d1, d2, d3, d4] => { results := [.lit (.bool true)], args := [d1, d2, d3, d4] }
  | _ => none }
def numReckonsRow : OpenClaim := { program := "ytnggikhpnophgaa", sum := "96aabf92b4024e1e2335f905d121d6e07d7c801d925511627de3e6201a4a9cbe", func := "ashlar/ashlarlaw01.NumReckons", spec := "numReckons", inPlace := ["math/bits.Add64", "math/bits.Sub64"], unfollowed := true, recurses := true, named := ["math/bits.divideError", "math/bits.overflowError"], apart := false }
def NumReckonsSaid : Prop := numReckonsRow.holds Try.pinned (OpenSpec.ofChange numReckonsSpec)

/-- ITS FALSE NEIGHBOUR: 'it returns false'. Refute it at one input. -/
def numReckonsWrong : ChangeSpec := { name := "numReckons", fn := fun _ => fun
  | [d1, d2, d3, d4] => { results := [.lit (.bool false)], args := [d1, d2, d3, d4] }
  | _ => none }
def NumReckonsWrongFalsely : Prop := numReckonsRow.holds Try.pinned (OpenSpec.ofChange numReckonsWrong)

/-- 'ashlarlaw01.NumFields': WHATEVER THE INPUT: true; the input reads as it did. -/
def numFieldsSpec : ChangeSpec := { name := "numFields", fn := fun _ => fun
  | [d1, d2, d3, d4, d5, d6] => { results := [.lit (.bool true)], args := [d1, d2, d3, d4, d5, d6] }
  | _ => none }
def numFieldsRow : OpenClaim := { program := "ytnggikhpnophgaa", sum := "96aabf92b4024e1e2335f905d121d6e07d7c801d925511627de3e6201a4a9cbe", func := "ashlar/ashlarlaw01.NumFields", spec := "numFields", inPlace := ["math/bits.Add64", "math/bits.Sub64"], unfollowed := true, recurses := true, named := ["math/bits.divideError", "math/bits.overflowError"], apart := false }
def NumFieldsSaid : Prop := numFieldsRow.holds Try.pinned (OpenSpec.ofChange numFieldsSpec)

/-- ITS FALSE NEIGHBOUR: 'it returns false'. Refute it at one input. -/
def numFieldsWrong : ChangeSpec := { name := "numFields", fn := fun _ => fun
  | [d1, d2, d3, d4, d5, d6] => { results := [.lit (.bool false)], args := [d1, d2, d3, d4, d5, d6] }
  | _ => none }
def NumFieldsWrongFalsely : Prop := numFieldsRow.holds Try.pinned (OpenSpec.ofChange numFieldsWrong)

/-- 'ashlarlaw01.NumLowest': WHATEVER THE INPUT: true; the input reads as it did. -/
def numLowestSpec : ChangeSpec := { name := "numLowest", fn := fun _ => fun
  | [d1, d2, d3, d4] => { results := [.lit (.bool true)], args := [d1, d2, d3, d4] }
  | _ => none }
def numLowestRow : OpenClaim := { program := "ytnggikhpnophgaa", sum := "96aabf92b4024e1e2335f905d121d6e07d7c801d925511627de3e6201a4a9cbe", func := "ashlar/ashlarlaw01.NumLowest", spec := "numLowest", inPlace := ["math/bits.Add64", "math/bits.Sub64"], unfollowed := true, recurses := true, named := ["math/bits.divideError", "math/bits.overflowError"], apart := false }
def NumLowestSaid : Prop := numLowestRow.holds Try.pinned (OpenSpec.ofChange numLowestSpec)

/-- ITS FALSE NEIGHBOUR: 'it returns false'. Refute it at one input. -/
def numLowestWrong : ChangeSpec := { name := "numLowest", fn := fun _ => fun
  | [d1, d2, d3, d4] => { results := [.lit (.bool false)], args := [d1, d2, d3, d4] }
  | _ => none }
def NumLowestWrongFalsely : Prop := numLowestRow.holds Try.pinned (OpenSpec.ofChange numLowestWrong)

/- THE SECOND FORM. 'bulk': how many values and letters a reading holds, each counted each time it is reached (what is shared counts as often as it is met; a slice's spare places count too). A statement '..UptoSaid' is the law's where the arguments, and the package variables that the reading takes, are together of bulk at most 1048576: NARROWER than '..Said'. Prove '..Said' where nothing that the law and all that it calls make is longer than what came in: it says more and counts as full. Else prove '..UptoSaid'. A law counts once. -/
mutual
def uptoBulk {H : Type} : DataW H → Nat
  | .lit (.string bytes) => bytes.length + 1
  | .lit _ => 1
  | .nil => 1
  | .ptr d => uptoBulk d + 1
  | .slice elems spare => uptoBulkAll elems + uptoBulkAll spare + 1
  | .agg parts => uptoBulkAll parts + 1
  | .iface _ d => uptoBulk d + 1
  | .map entries => uptoBulkEntries entries + 1
  | .held _ => 1
def uptoBulkAll {H : Type} : List (DataW H) → Nat
  | [] => 0
  | d :: r => uptoBulk d + uptoBulkAll r
def uptoBulkEntries {H : Type} : List (Lit × DataW H) → Nat
  | [] => 0
  | x :: r => uptoBulkEntry x + uptoBulkEntries r
def uptoBulkEntry {H : Type} : Lit × DataW H → Nat
  | (.string bytes, d) => bytes.length + uptoBulk d + 1
  | (_, d) => uptoBulk d + 1
 end
def uptoSmall : (H : Type) → List (DataW H) → Bool := fun _ ds => decide (uptoBulkAll ds ≤ 1048576)
def OpenSpec.upto (s : _root_.Go.ChangeSpec) : _root_.Go.OpenSpec := { _root_.Go.OpenSpec.ofChange s with cond := some uptoSmall }

/-- 'ashlarlaw01.NumMakes', WHERE WHAT IT READS IS OF BULK AT MOST 1048576: true; the input reads as it did. -/
def numMakesUptoRow : OpenClaim := { program := "ytnggikhpnophgaa", sum := "96aabf92b4024e1e2335f905d121d6e07d7c801d925511627de3e6201a4a9cbe", func := "ashlar/ashlarlaw01.NumMakes", spec := "numMakes", inPlace := ["math/bits.Add64", "math/bits.Sub64"], unfollowed := true, recurses := true, named := ["math/bits.divideError", "math/bits.overflowError"], apart := false, narrowed := true }
def NumMakesUptoSaid : Prop := numMakesUptoRow.holds Try.pinned (OpenSpec.upto numMakesSpec)

/-- 'ashlarlaw01.NumRounds', WHERE WHAT IT READS IS OF BULK AT MOST 1048576: true; the input reads as it did. -/
def numRoundsUptoRow : OpenClaim := { program := "ytnggikhpnophgaa", sum := "96aabf92b4024e1e2335f905d121d6e07d7c801d925511627de3e6201a4a9cbe", func := "ashlar/ashlarlaw01.NumRounds", spec := "numRounds", inPlace := ["math/bits.Add64", "math/bits.Sub64"], unfollowed := true, recurses := true, named := ["math/bits.divideError", "math/bits.overflowError"], apart := false, narrowed := true }
def NumRoundsUptoSaid : Prop := numRoundsUptoRow.holds Try.pinned (OpenSpec.upto numRoundsSpec)

/-- 'ashlarlaw01.NumOrder', WHERE WHAT IT READS IS OF BULK AT MOST 1048576: true; the input reads as it did. -/
def numOrderUptoRow : OpenClaim := { program := "ytnggikhpnophgaa", sum := "96aabf92b4024e1e2335f905d121d6e07d7c801d925511627de3e6201a4a9cbe", func := "ashlar/ashlarlaw01.NumOrder", spec := "numOrder", inPlace := ["math/bits.Add64", "math/bits.Sub64"], unfollowed := true, recurses := true, named := ["math/bits.divideError", "math/bits.overflowError"], apart := false, narrowed := true }
def NumOrderUptoSaid : Prop := numOrderUptoRow.holds Try.pinned (OpenSpec.upto numOrderSpec)

/-- 'ashlarlaw01.NumDivides', WHERE WHAT IT READS IS OF BULK AT MOST 1048576: true; the input reads as it did. -/
def numDividesUptoRow : OpenClaim := { program := "ytnggikhpnophgaa", sum := "96aabf92b4024e1e2335f905d121d6e07d7c801d925511627de3e6201a4a9cbe", func := "ashlar/ashlarlaw01.NumDivides", spec := "numDivides", inPlace := ["math/bits.Add64", "math/bits.Sub64"], unfollowed := true, recurses := true, named := ["math/bits.divideError", "math/bits.overflowError"], apart := false, narrowed := true }
def NumDividesUptoSaid : Prop := numDividesUptoRow.holds Try.pinned (OpenSpec.upto numDividesSpec)

/-- 'ashlarlaw01.NumTurned', WHERE WHAT IT READS IS OF BULK AT MOST 1048576: true; the input reads as it did. -/
def numTurnedUptoRow : OpenClaim := { program := "ytnggikhpnophgaa", sum := "96aabf92b4024e1e2335f905d121d6e07d7c801d925511627de3e6201a4a9cbe", func := "ashlar/ashlarlaw01.NumTurned", spec := "numTurned", inPlace := ["math/bits.Add64", "math/bits.Sub64"], unfollowed := true, recurses := true, named := ["math/bits.divideError", "math/bits.overflowError"], apart := false, narrowed := true }
def NumTurnedUptoSaid : Prop := numTurnedUptoRow.holds Try.pinned (OpenSpec.upto numTurnedSpec)

/-- 'ashlarlaw01.NumWhole', WHERE WHAT IT READS IS OF BULK AT MOST 1048576: true; the input reads as it did. -/
def numWholeUptoRow : OpenClaim := { program := "ytnggikhpnophgaa", sum := "96aabf92b4024e1e2335f905d121d6e07d7c801d925511627de3e6201a4a9cbe", func := "ashlar/ashlarlaw01.NumWhole", spec := "numWhole", inPlace := ["math/bits.Add64", "math/bits.Sub64"], unfollowed := true, recurses := true, named := ["math/bits.divideError", "math/bits.overflowError"], apart := false, narrowed := true }
def NumWholeUptoSaid : Prop := numWholeUptoRow.holds Try.pinned (OpenSpec.upto numWholeSpec)

/-- 'ashlarlaw01.NumEnds', WHERE WHAT IT READS IS OF BULK AT MOST 1048576: true; the input reads as it did. -/
def numEndsUptoRow : OpenClaim := { program := "ytnggikhpnophgaa", sum := "96aabf92b4024e1e2335f905d121d6e07d7c801d925511627de3e6201a4a9cbe", func := "ashlar/ashlarlaw01.NumEnds", spec := "numEnds", inPlace := ["math/bits.Add64", "math/bits.Sub64"], unfollowed := true, recurses := true, named := ["math/bits.divideError", "math/bits.overflowError"], apart := false, narrowed := true }
def NumEndsUptoSaid : Prop := numEndsUptoRow.holds Try.pinned (OpenSpec.upto numEndsSpec)

/-- 'ashlarlaw01.NumThree', WHERE WHAT IT READS IS OF BULK AT MOST 1048576: true; the input reads as it did. -/
def numThreeUptoRow : OpenClaim := { program := "ytnggikhpnophgaa", sum := "96aabf92b4024e1e2335f905d121d6e07d7c801d925511627de3e6201a4a9cbe", func := "ashlar/ashlarlaw01.NumThree", spec := "numThree", inPlace := ["math/bits.Add64", "math/bits.Sub64"], unfollowed := true, recurses := true, named := ["math/bits.divideError", "math/bits.overflowError"], apart := false, narrowed := true }
def NumThreeUptoSaid : Prop := numThreeUptoRow.holds Try.pinned (OpenSpec.upto numThreeSpec)

/-- 'ashlarlaw01.NumReckons', WHERE WHAT IT READS IS OF BULK AT MOST 1048576: true; the input reads as it did. -/
def numReckonsUptoRow : OpenClaim := { program := "ytnggikhpnophgaa", sum := "96aabf92b4024e1e2335f905d121d6e07d7c801d925511627de3e6201a4a9cbe", func := "ashlar/ashlarlaw01.NumReckons", spec := "numReckons", inPlace := ["math/bits.Add64", "math/bits.Sub64"], unfollowed := true, recurses := true, named := ["math/bits.divideError", "math/bits.overflowError"], apart := false, narrowed := true }
def NumReckonsUptoSaid : Prop := numReckonsUptoRow.holds Try.pinned (OpenSpec.upto numReckonsSpec)

/-- 'ashlarlaw01.NumFields', WHERE WHAT IT READS IS OF BULK AT MOST 1048576: true; the input reads as it did. -/
def numFieldsUptoRow : OpenClaim := { program := "ytnggikhpnophgaa", sum := "96aabf92b4024e1e2335f905d121d6e07d7c801d925511627de3e6201a4a9cbe", func := "ashlar/ashlarlaw01.NumFields", spec := "numFields", inPlace := ["math/bits.Add64", "math/bits.Sub64"], unfollowed := true, recurses := true, named := ["math/bits.divideError", "math/bits.overflowError"], apart := false, narrowed := true }
def NumFieldsUptoSaid : Prop := numFieldsUptoRow.holds Try.pinned (OpenSpec.upto numFieldsSpec)

/-- 'ashlarlaw01.NumLowest', WHERE WHAT IT READS IS OF BULK AT MOST 1048576: true; the input reads as it did. -/
def numLowestUptoRow : OpenClaim := { program := "ytnggikhpnophgaa", sum := "96aabf92b4024e1e2335f905d121d6e07d7c801d925511627de3e6201a4a9cbe", func := "ashlar/ashlarlaw01.NumLowest", spec := "numLowest", inPlace := ["math/bits.Add64", "math/bits.Sub64"], unfollowed := true, recurses := true, named := ["math/bits.divideError", "math/bits.overflowError"], apart := false, narrowed := true }
def NumLowestUptoSaid : Prop := numLowestUptoRow.holds Try.pinned (OpenSpec.upto numLowestSpec)

end Rows
end Go.Proofs.Ytnggikhpnophgaa
