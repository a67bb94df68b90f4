/-
  No cell of these rows narrows 'for every input' (looked for: loops, veiled, ifaces, maps, wideKeys, modest, calm, conditions, laid).
  DERIVED. THE GIVEN ROWS OF THIS SEAT. 10 by the template 'for every input the law returns true; each argument reads behind the call as it read before'; 0 by the template 'total and deterministic' (their statements: YtbpjnkeilhfajaaGreatTotals.lean).
  GIVEN WITH THE SEED: the statements are not yours to turn. If you find one false, say at which input.
  Laid BY PROGRAM, IN A SANDBOX (cutbox-rows.mjs): the forced cells as the released guide's own fill.sh prints them over the translation e90a8697140ee63e… (all of the seat's roots in one cut). By AI agents, Wed Nov 11 2026. No macro, syntax, notation, axiom, sorry.
-/
import Derived.Test.YtbpjnkeilhfajaaGreatChecked
import GoSem.Claim
import GoSem.ClaimJoined
import GoSem.ClaimMapViews
import Derived.JoinedTies
import Derived.KernelRfl
namespace Go.Proofs.YtbpjnkeilhfajaaGreat
/- THE CELL 'sum', in the pinned program and in every row, IS THE sha256 OF THE DUMP (.gsa) THAT YtbpjnkeilhfajaaGreatProg.lean LOADS. Nothing in Lean hashes anything: it is a label: what it is worth is what the hold of that sum in a sandbox is worth. -/
noncomputable def Tryz.pinned : Pinned := { name := "ytbpjnkeilhfajaagreat", sum := "e90a8697140ee63eba6306e43c998b65881a0f944015aad3f2ef3af402b7cc1e", checked := Tryz.checked }
namespace Rows
def none {H : Type} : Left H := { results := [], args := [] }

/-- 'ashlarlaw11.LinearChecks': WHATEVER THE INPUT: true; the input reads as it did. -/
def linearChecksSpec : ChangeSpec := { name := "linearChecks", fn := fun _ => fun
  | [d1, d2, d3, d4] => { results := [.lit (.bool true)], args := [d1, d2, d3, d4] }
  | _ => none }
def linearChecksRow : OpenClaim := { program := "ytbpjnkeilhfajaagreat", sum := "e90a8697140ee63eba6306e43c998b65881a0f944015aad3f2ef3af402b7cc1e", func := "ashlar/ashlarlaw11.LinearChecks", spec := "linearChecks", inPlace := ["math/bits.Add64", "math/bits.Sub64"], unfollowed := true, recurses := true, named := ["math/bits.divideError", "math/bits.overflowError"], apart := false }
def LinearChecksSaid : Prop := linearChecksRow.holds Tryz.pinned (OpenSpec.ofChange linearChecksSpec)

/-- ITS FALSE NEIGHBOUR: 'it returns false'. Refute it at one input. -/
def linearChecksWrong : ChangeSpec := { name := "linearChecks", fn := fun _ => fun
  | [d1, d2, d3, d4] => { results := [.lit (.bool false)], args := [d1, d2, d3, d4] }
  | _ => none }
def LinearChecksWrongFalsely : Prop := linearChecksRow.holds Tryz.pinned (OpenSpec.ofChange linearChecksWrong)

/-- 'ashlarlaw11.LinearAnswers': WHATEVER THE INPUT: true; the input reads as it did. -/
def linearAnswersSpec : ChangeSpec := { name := "linearAnswers", fn := fun _ => fun
  | [d1, d2, d3] => { results := [.lit (.bool true)], args := [d1, d2, d3] }
  | _ => none }
def linearAnswersRow : OpenClaim := { program := "ytbpjnkeilhfajaagreat", sum := "e90a8697140ee63eba6306e43c998b65881a0f944015aad3f2ef3af402b7cc1e", func := "ashlar/ashlarlaw11.LinearAnswers", spec := "linearAnswers", inPlace := ["math/bits.Add64", "math/bits.Sub64"], unfollowed := true, recurses := true, named := ["math/bits.divideError", "math/bits.overflowError"], apart := false }
def LinearAnswersSaid : Prop := linearAnswersRow.holds Tryz.pinned (OpenSpec.ofChange linearAnswersSpec)

/-- ITS FALSE NEIGHBOUR: 'it returns false'. Refute it at one input. -/
def linearAnswersWrong : ChangeSpec := { name := "linearAnswers", fn := fun _ => fun
  | [d1, d2, d3] => { results := [.lit (.bool false)], args := [d1, d2, d3] }
  | _ => none }
def LinearAnswersWrongFalsely : Prop := linearAnswersRow.holds Tryz.pinned (OpenSpec.ofChange linearAnswersWrong)

/-- 'ashlarlaw11.LinearTurned': WHATEVER THE INPUT: true; the input reads as it did. -/
def linearTurnedSpec : ChangeSpec := { name := "linearTurned", fn := fun _ => fun
  | [d1, d2] => { results := [.lit (.bool true)], args := [d1, d2] }
  | _ => none }
def linearTurnedRow : OpenClaim := { program := "ytbpjnkeilhfajaagreat", sum := "e90a8697140ee63eba6306e43c998b65881a0f944015aad3f2ef3af402b7cc1e", func := "ashlar/ashlarlaw11.LinearTurned", spec := "linearTurned", inPlace := ["math/bits.Add64", "math/bits.Sub64"], unfollowed := true, recurses := true, named := ["math/bits.divideError", "math/bits.overflowError"], apart := false }
def LinearTurnedSaid : Prop := linearTurnedRow.holds Tryz.pinned (OpenSpec.ofChange linearTurnedSpec)

/-- ITS FALSE NEIGHBOUR: 'it returns false'. Refute it at one input. -/
def linearTurnedWrong : ChangeSpec := { name := "linearTurned", fn := fun _ => fun
  | [d1, d2] => { results := [.lit (.bool false)], args := [d1, d2] }
  | _ => none }
def LinearTurnedWrongFalsely : Prop := linearTurnedRow.holds Tryz.pinned (OpenSpec.ofChange linearTurnedWrong)

/-- 'ashlarlaw11.LinearBox': WHATEVER THE INPUT: true; the input reads as it did. -/
def linearBoxSpec : ChangeSpec := { name := "linearBox", fn := fun _ => fun
  | [d1, d2, d3] => { results := [.lit (.bool true)], args := [d1, d2, d3] }
  | _ => none }
def linearBoxRow : OpenClaim := { program := "ytbpjnkeilhfajaagreat", sum := "e90a8697140ee63eba6306e43c998b65881a0f944015aad3f2ef3af402b7cc1e", func := "ashlar/ashlarlaw11.LinearBox", spec := "linearBox", inPlace := ["math/bits.Add64", "math/bits.Sub64"], unfollowed := true, recurses := true, named := ["math/bits.divideError", "math/bits.overflowError"], apart := false }
def LinearBoxSaid : Prop := linearBoxRow.holds Tryz.pinned (OpenSpec.ofChange linearBoxSpec)

/-- ITS FALSE NEIGHBOUR: 'it returns false'. Refute it at one input. -/
def linearBoxWrong : ChangeSpec := { name := "linearBox", fn := fun _ => fun
  | [d1, d2, d3] => { results := [.lit (.bool false)], args := [d1, d2, d3] }
  | _ => none }
def LinearBoxWrongFalsely : Prop := linearBoxRow.holds Tryz.pinned (OpenSpec.ofChange linearBoxWrong)

/-- 'ashlarlaw11.LinearOrigin': WHATEVER THE INPUT: true; the input reads as it did. -/
def linearOriginSpec : ChangeSpec := { name := "linearOrigin", fn := fun _ => fun
  | [d1, d2, d3] => { results := [.lit (.bool true)], args := [d1, d2, d3] }
  | _ => none }
def linearOriginRow : OpenClaim := { program := "ytbpjnkeilhfajaagreat", sum := "e90a8697140ee63eba6306e43c998b65881a0f944015aad3f2ef3af402b7cc1e", func := "ashlar/ashlarlaw11.LinearOrigin", spec := "linearOrigin", inPlace := ["math/bits.Add64", "math/bits.Sub64"], unfollowed := true, recurses := true, named := ["math/bits.divideError", "math/bits.overflowError"], apart := false }
def LinearOriginSaid : Prop := linearOriginRow.holds Tryz.pinned (OpenSpec.ofChange linearOriginSpec)

/-- ITS FALSE NEIGHBOUR: 'it returns false'. Refute it at one input. -/
def linearOriginWrong : ChangeSpec := { name := "linearOrigin", fn := fun _ => fun
  | [d1, d2, d3] => { results := [.lit (.bool false)], args := [d1, d2, d3] }
  | _ => none }
def LinearOriginWrongFalsely : Prop := linearOriginRow.holds Tryz.pinned (OpenSpec.ofChange linearOriginWrong)

/-- 'ashlarlaw12.WholeChecks': WHATEVER THE INPUT: true; the input reads as it did. -/
def wholeChecksSpec : ChangeSpec := { name := "wholeChecks", fn := fun _ => fun
  | [d1, d2] => { results := [.lit (.bool true)], args := [d1, d2] }
  | _ => none }
def wholeChecksRow : OpenClaim := { program := "ytbpjnkeilhfajaagreat", sum := "e90a8697140ee63eba6306e43c998b65881a0f944015aad3f2ef3af402b7cc1e", func := "ashlar/ashlarlaw12.WholeChecks", spec := "wholeChecks", inPlace := ["math/bits.Add64", "math/bits.Sub64"], unfollowed := true, recurses := true, named := ["math/bits.divideError", "math/bits.overflowError"], apart := false }
def WholeChecksSaid : Prop := wholeChecksRow.holds Tryz.pinned (OpenSpec.ofChange wholeChecksSpec)

/-- ITS FALSE NEIGHBOUR: 'it returns false'. Refute it at one input. -/
def wholeChecksWrong : ChangeSpec := { name := "wholeChecks", fn := fun _ => fun
  | [d1, d2] => { results := [.lit (.bool false)], args := [d1, d2] }
  | _ => none }
def WholeChecksWrongFalsely : Prop := wholeChecksRow.holds Tryz.pinned (OpenSpec.ofChange wholeChecksWrong)

/-- 'ashlarlaw12.WholeNone': WHATEVER THE INPUT: true; the input reads as it did. -/
def wholeNoneSpec : ChangeSpec := { name := "wholeNone", fn := fun _ => fun
  | [d1, d2, d3] => { results := [.lit (.bool true)], args := [d1, d2, d3] }
  | _ => none }
def wholeNoneRow : OpenClaim := { program := "ytbpjnkeilhfajaagreat", sum := "e90a8697140ee63eba6306e43c998b65881a0f944015aad3f2ef3af402b7cc1e", func := "ashlar/ashlarlaw12.WholeNone", spec := "wholeNone", inPlace := ["math/bits.Add64", "math/bits.Sub64"], unfollowed := true, recurses := true, named := ["math/bits.divideError", "math/bits.overflowError"], apart := false }
def WholeNoneSaid : Prop := wholeNoneRow.holds Tryz.pinned (OpenSpec.ofChange wholeNoneSpec)

/-- ITS FALSE NEIGHBOUR: 'it returns false'. Refute it at one input. -/
def wholeNoneWrong : ChangeSpec := { name := "wholeNone", fn := fun _ => fun
  | [d1, d2, d3] => { results := [.lit (.bool false)], args := [d1, d2, d3] }
  | _ => none }
def WholeNoneWrongFalsely : Prop := wholeNoneRow.holds Tryz.pinned (OpenSpec.ofChange wholeNoneWrong)

/-- 'ashlarlaw12.WholeKnows': WHATEVER THE INPUT: true; the input reads as it did. -/
def wholeKnowsSpec : ChangeSpec := { name := "wholeKnows", fn := fun _ => fun
  | [d1, d2] => { results := [.lit (.bool true)], args := [d1, d2] }
  | _ => none }
def wholeKnowsRow : OpenClaim := { program := "ytbpjnkeilhfajaagreat", sum := "e90a8697140ee63eba6306e43c998b65881a0f944015aad3f2ef3af402b7cc1e", func := "ashlar/ashlarlaw12.WholeKnows", spec := "wholeKnows", inPlace := ["math/bits.Add64", "math/bits.Sub64"], unfollowed := true, recurses := true, named := ["math/bits.divideError", "math/bits.overflowError"], apart := false }
def WholeKnowsSaid : Prop := wholeKnowsRow.holds Tryz.pinned (OpenSpec.ofChange wholeKnowsSpec)

/-- ITS FALSE NEIGHBOUR: 'it returns false'. Refute it at one input. -/
def wholeKnowsWrong : ChangeSpec := { name := "wholeKnows", fn := fun _ => fun
  | [d1, d2] => { results := [.lit (.bool false)], args := [d1, d2] }
  | _ => none }
def WholeKnowsWrongFalsely : Prop := wholeKnowsRow.holds Tryz.pinned (OpenSpec.ofChange wholeKnowsWrong)

/-- 'ashlarlaw12.WholeParity': WHATEVER THE INPUT: true; the input reads as it did. -/
def wholeParitySpec : ChangeSpec := { name := "wholeParity", fn := fun _ => fun
  | [d1, d2, d3] => { results := [.lit (.bool true)], args := [d1, d2, d3] }
  | _ => none }
def wholeParityRow : OpenClaim := { program := "ytbpjnkeilhfajaagreat", sum := "e90a8697140ee63eba6306e43c998b65881a0f944015aad3f2ef3af402b7cc1e", func := "ashlar/ashlarlaw12.WholeParity", spec := "wholeParity", inPlace := ["math/bits.Add64", "math/bits.Sub64"], unfollowed := true, recurses := true, named := ["math/bits.divideError", "math/bits.overflowError"], apart := false }
def WholeParitySaid : Prop := wholeParityRow.holds Tryz.pinned (OpenSpec.ofChange wholeParitySpec)

/-- ITS FALSE NEIGHBOUR: 'it returns false'. Refute it at one input. -/
def wholeParityWrong : ChangeSpec := { name := "wholeParity", fn := fun _ => fun
  | [d1, d2, d3] => { results := [.lit (.bool false)], args := [d1, d2, d3] }
  | _ => none }
def WholeParityWrongFalsely : Prop := wholeParityRow.holds Tryz.pinned (OpenSpec.ofChange wholeParityWrong)

/-- 'ashlarlaw12.WholeTurned': WHATEVER THE INPUT: true; the input reads as it did. -/
def wholeTurnedSpec : ChangeSpec := { name := "wholeTurned", fn := fun _ => fun
  | [d1, d2] => { results := [.lit (.bool true)], args := [d1, d2] }
  | _ => none }
def wholeTurnedRow : OpenClaim := { program := "ytbpjnkeilhfajaagreat", sum := "e90a8697140ee63eba6306e43c998b65881a0f944015aad3f2ef3af402b7cc1e", func := "ashlar/ashlarlaw12.WholeTurned", spec := "wholeTurned", inPlace := ["math/bits.Add64", "math/bits.Sub64"], unfollowed := true, recurses := true, named := ["math/bits.divideError", "math/bits.overflowError"], apart := false }
def WholeTurnedSaid : Prop := wholeTurnedRow.holds Tryz.pinned (OpenSpec.ofChange wholeTurnedSpec)

/-- ITS FALSE NEIGHBOUR: 'it returns false'. Refute it at one input. -/
def wholeTurnedWrong : ChangeSpec := { name := "wholeTurned", fn := fun _ => fun
  | [d1, d2] => { results := [.lit (.bool false)], args := [d1, d2] }
  | _ => none }
def WholeTurnedWrongFalsely : Prop := wholeTurnedRow.holds Tryz.pinned (OpenSpec.ofChange wholeTurnedWrong)

/- THE SECOND FORM. 'bulk': how many values and letters a reading holds, each counted each time it is reached (what is shared counts as often as it is met; a slice's spare places count too). A statement '..UptoSaid' is the law's where the arguments, and the package variables that the reading takes, are together of bulk at most 1048576: NARROWER than '..Said'. Prove '..Said' where nothing that the law and all that it calls make is longer than what came in: it says more and counts as full. Else prove '..UptoSaid'. A law counts once. -/
mutual
def uptoBulk {H : Type} : DataW H → Nat
  | .lit (.string bytes) => bytes.length + 1
  | .lit _ => 1
  | .nil => 1
  | .ptr d => uptoBulk d + 1
  | .slice elems spare => uptoBulkAll elems + uptoBulkAll spare + 1
  | .agg parts => uptoBulkAll parts + 1
  | .iface _ d => uptoBulk d + 1
  | .map entries => uptoBulkEntries entries + 1
  | .held _ => 1
def uptoBulkAll {H : Type} : List (DataW H) → Nat
  | [] => 0
  | d :: r => uptoBulk d + uptoBulkAll r
def uptoBulkEntries {H : Type} : List (Lit × DataW H) → Nat
  | [] => 0
  | x :: r => uptoBulkEntry x + uptoBulkEntries r
def uptoBulkEntry {H : Type} : Lit × DataW H → Nat
  | (.string bytes, d) => bytes.length + uptoBulk d + 1
  | (_, d) => uptoBulk d + 1
 end
def uptoSmall : (H : Type) → List (DataW H) → Bool := fun _ ds => decide (uptoBulkAll ds ≤ 1048576)
def OpenSpec.upto (s : _root_.Go.ChangeSpec) : _root_.Go.OpenSpec := { _root_.Go.OpenSpec.ofChange s with cond := some uptoSmall }

/-- 'ashlarlaw11.LinearChecks', WHERE WHAT IT READS IS OF BULK AT MOST 1048576: true; the input reads as it did. -/
def linearChecksUptoRow : OpenClaim := { program := "ytbpjnkeilhfajaagreat", sum := "e90a8697140ee63eba6306e43c998b65881a0f944015aad3f2ef3af402b7cc1e", func := "ashlar/ashlarlaw11.LinearChecks", spec := "linearChecks", inPlace := ["math/bits.Add64", "math/bits.Sub64"], unfollowed := true, recurses := true, named := ["math/bits.divideError", "math/bits.overflowError"], apart := false, narrowed := true }
def LinearChecksUptoSaid : Prop := linearChecksUptoRow.holds Tryz.pinned (OpenSpec.upto linearChecksSpec)

/-- 'ashlarlaw11.LinearAnswers', WHERE WHAT IT READS IS OF BULK AT MOST 1048576: true; the input reads as it did. -/
def linearAnswersUptoRow : OpenClaim := { program := "ytbpjnkeilhfajaagreat", sum := "e90a8697140ee63eba6306e43c998b65881a0f944015aad3f2ef3af402b7cc1e", func := "ashlar/ashlarlaw11.LinearAnswers", spec := "linearAnswers", inPlace := ["math/bits.Add64", "math/bits.Sub64"], unfollowed := true, recurses := true, named := ["math/bits.divideError", "math/bits.overflowError"], apart := false, narrowed := true }
def LinearAnswersUptoSaid : Prop := linearAnswersUptoRow.holds Tryz.pinned (OpenSpec.upto linearAnswersSpec)

/-- 'ashlarlaw11.LinearTurned', WHERE WHAT IT READS IS OF BULK AT MOST 1048576: true; the input reads as it did. -/
def linearTurnedUptoRow : OpenClaim := { program := "ytbpjnkeilhfajaagreat", sum := "e90a8697140ee63eba6306e43c998b65881a0f944015aad3f2ef3af402b7cc1e", func := "ashlar/ashlarlaw11.LinearTurned", spec := "linearTurned", inPlace := ["math/bits.Add64", "math/bits.Sub64"], unfollowed := true, recurses := true, named := ["math/bits.divideError", "math/bits.overflowError"], apart := false, narrowed := true }
def LinearTurnedUptoSaid : Prop := linearTurnedUptoRow.holds Tryz.pinned (OpenSpec.upto linearTurnedSpec)

/-- 'ashlarlaw11.LinearBox', WHERE WHAT IT READS IS OF BULK AT MOST 1048576: true; the input reads as it did. -/
def linearBoxUptoRow : OpenClaim := { program := "ytbpjnkeilhfajaagreat", sum := "e90a8697140ee63eba6306e43c998b65881a0f944015aad3f2ef3af402b7cc1e", func := "ashlar/ashlarlaw11.LinearBox", spec := "linearBox", inPlace := ["math/bits.Add64", "math/bits.Sub64"], unfollowed := true, recurses := true, named := ["math/bits.divideError", "math/bits.overflowError"], apart := false, narrowed := true }
def LinearBoxUptoSaid : Prop := linearBoxUptoRow.holds Tryz.pinned (OpenSpec.upto linearBoxSpec)

/-- 'ashlarlaw11.LinearOrigin', WHERE WHAT IT READS IS OF BULK AT MOST 1048576: true; the input reads as it did. -/
def linearOriginUptoRow : OpenClaim := { program := "ytbpjnkeilhfajaagreat", sum := "e90a8697140ee63eba6306e43c998b65881a0f944015aad3f2ef3af402b7cc1e", func := "ashlar/ashlarlaw11.LinearOrigin", spec := "linearOrigin", inPlace := ["math/bits.Add64", "math/bits.Sub64"], unfollowed := true, recurses := true, named := ["math/bits.divideError", "math/bits.overflowError"], apart := false, narrowed := true }
def LinearOriginUptoSaid : Prop := linearOriginUptoRow.holds Tryz.pinned (OpenSpec.upto linearOriginSpec)

/-- 'ashlarlaw12.WholeChecks', WHERE WHAT IT READS IS OF BULK AT MOST 1048576: true; the input reads as it did. -/
def wholeChecksUptoRow : OpenClaim := { program := "ytbpjnkeilhfajaagreat", sum := "e90a8697140ee63eba6306e43c998b65881a0f944015aad3f2ef3af402b7cc1e", func := "ashlar/ashlarlaw12.WholeChecks", spec := "wholeChecks", inPlace := ["math/bits.Add64", "math/bits.Sub64"], unfollowed := true, recurses := true, named := ["math/bits.divideError", "math/bits.overflowError"], apart := false, narrowed := true }
def WholeChecksUptoSaid : Prop := wholeChecksUptoRow.holds Tryz.pinned (OpenSpec.upto wholeChecksSpec)

/-- 'ashlarlaw12.WholeNone', WHERE WHAT IT READS IS OF BULK AT MOST 1048576: true; the input reads as it did. -/
def wholeNoneUptoRow : OpenClaim := { program := "ytbpjnkeilhfajaagreat", sum := "e90a8697140ee63eba6306e43c998b65881a0f944015aad3f2ef3af402b7cc1e", func := "ashlar/ashlarlaw12.WholeNone", spec := "wholeNone", inPlace := ["math/bits.Add64", "math/bits.Sub64"], unfollowed := true, recurses := true, named := ["math/bits.divideError", "math/bits.overflowError"], apart := false, narrowed := true }
def WholeNoneUptoSaid : Prop := wholeNoneUptoRow.holds Tryz.pinned (OpenSpec.upto wholeNoneSpec)

/-- 'ashlarlaw12.WholeKnows', WHERE WHAT IT READS IS OF BULK AT MOST 1048576: true; the input reads as it did. -/
def wholeKnowsUptoRow : OpenClaim := { program := "ytbpjnkeilhfajaagreat", sum := "e90a8697140ee63eba6306e43c998b65881a0f944015aad3f2ef3af402b7cc1e", func := "ashlar/ashlarlaw12.WholeKnows", spec := "wholeKnows", inPlace := ["math/bits.Add64", "math/bits.Sub64"], unfollowed := true, recurses := true, named := ["math/bits.divideError", "math/bits.overflowError"], apart := false, narrowed := true }
def WholeKnowsUptoSaid : Prop := wholeKnowsUptoRow.holds Tryz.pinned (OpenSpec.upto wholeKnowsSpec)

/-- 'ashlarlaw12.WholeParity', WHERE WHAT IT READS IS OF BULK AT MOST 1048576: true; the input reads as it did. -/
def wholeParityUptoRow : OpenClaim := { program := "ytbpjnkeilhfajaagreat", sum := "e90a8697140ee63eba6306e43c998b65881a0f944015aad3f2ef3af402b7cc1e", func := "ashlar/ashlarlaw12.WholeParity", spec := "wholeParity", inPlace := ["math/bits.Add64", "math/bits.Sub64"], unfollowed := true, recurses := true, named := ["math/bits.divideError", "math/bits.overflowError"], apart := false, narrowed := true }
def WholeParityUptoSaid : Prop := wholeParityUptoRow.holds Tryz.pinned (OpenSpec.upto wholeParitySpec)

/-- 'ashlarlaw12.WholeTurned', WHERE WHAT IT READS IS OF BULK AT MOST 1048576: true; the input reads as it did. -/
def wholeTurnedUptoRow : OpenClaim := { program := "ytbpjnkeilhfajaagreat", sum := "e90a8697140ee63eba6306e43c998b65881a0f944015aad3f2ef3af402b7cc1e", func := "ashlar/ashlarlaw12.WholeTurned", spec := "wholeTurned", inPlace := ["math/bits.Add64", "math/bits.Sub64"], unfollowed := true, recurses := true, named := ["math/bits.divideError", "math/bits.overflowError"], apart := false, narrowed := true }
def WholeTurnedUptoSaid : Prop := wholeTurnedUptoRow.holds Tryz.pinned (OpenSpec.upto wholeTurnedSpec)

end Rows
end Go.Proofs.YtbpjnkeilhfajaaGreat
