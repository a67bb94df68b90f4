/-
  NARROWER THAN 'FOR EVERY INPUT', by the rows' own cells (each row's printed sentence says how): CnfTells: loops, laid · CnfMeans: loops, laid · CnfAtoms: loops, laid · CnfNot: loops, laid · CnfTwice: loops, laid · CnfSizes: loops, laid.
  DERIVED. THE GIVEN ROWS OF THIS SEAT. 6 by the template 'for every input the law returns true; each argument reads behind the call as it read before'; 0 by the template 'total and deterministic' (their statements: YthckboogibhjaaaDoorTotals.lean).
  GIVEN WITH THE SEED: the statements are not yours to turn. If you find one false, say at which input.
  Laid BY PROGRAM, IN A SANDBOX (cutbox-rows.mjs): the forced cells as the released guide's own fill.sh prints them over the translation e2408e8a7f8cf6fe… (all of the seat's roots in one cut). By AI agents, Wed Nov 11 2026. No macro, syntax, notation, axiom, sorry.
-/
import Derived.Test.YthckboogibhjaaaDoorChecked
import GoSem.PinnedTables
import GoSem.Claim
import GoSem.ClaimJoined
import GoSem.ClaimMapViews
import Derived.JoinedTies
import Derived.KernelRfl
namespace Go.Proofs.YthckboogibhjaaaDoor
/- THE CELL 'sum', in the pinned program and in every row, IS THE sha256 OF THE DUMP (.gsa) THAT YthckboogibhjaaaDoorProg.lean LOADS. Nothing in Lean hashes anything: it is a label: what it is worth is what the hold of that sum in a sandbox is worth. -/
noncomputable def Tryd.pinned : Pinned := { name := "ythckboogibhjaaadoor", sum := "e2408e8a7f8cf6fe2f3f8613acbf509c8c954a478faec373835ddb2afed93f59", checked := Tryd.checked }
namespace Rows
def none {H : Type} : Left H := { results := [], args := [] }

/- WHAT THE LISTED PACKAGE-LEVEL VARIABLES READ AS WHEN THE CALL BEGINS. Each datum BY PROGRAM (the guide's laid-datum.mjs) off the statement by which the dump's own 'gosem.cut.vars' lays the variable. In a bare row this is a premise. The card (YthckboogibhjaaaDoorCards.lean) ties it to the program's text. -/
def laid_unicode_utf8_acceptRanges {H : Type} : DataW H := .agg [.agg [.lit (.int .u8 128), .lit (.int .u8 191)], .agg [.lit (.int .u8 160), .lit (.int .u8 191)], .agg [.lit (.int .u8 128), .lit (.int .u8 159)], .agg [.lit (.int .u8 144), .lit (.int .u8 191)], .agg [.lit (.int .u8 128), .lit (.int .u8 143)], .agg [.lit (.int .u8 0), .lit (.int .u8 0)], .agg [.lit (.int .u8 0), .lit (.int .u8 0)], .agg [.lit (.int .u8 0), .lit (.int .u8 0)], .agg [.lit (.int .u8 0), .lit (.int .u8 0)], .agg [.lit (.int .u8 0), .lit (.int .u8 0)], .agg [.lit (.int .u8 0), .lit (.int .u8 0)], .agg [.lit (.int .u8 0), .lit (.int .u8 0)], .agg [.lit (.int .u8 0), .lit (.int .u8 0)], .agg [.lit (.int .u8 0), .lit (.int .u8 0)], .agg [.lit (.int .u8 0), .lit (.int .u8 0)], .agg [.lit (.int .u8 0), .lit (.int .u8 0)]]
/-- One of Go's own tables, pinned by name: the form's constant. -/
def laid_unicode_utf8_first : DataW Unit := Go.Pinned.utf8First

/-- 'ashlarlaw07.CnfTells': WHATEVER THE INPUT: true; the input reads as it did. -/
def cnfTellsSpec : ChangeSpec := { name := "cnfTells", fn := fun _ => fun
  | [d] => { results := [.lit (.bool true)], args := [d] }
  | _ => none }
def cnfTellsRow : OpenClaim := { program := "ythckboogibhjaaadoor", sum := "e2408e8a7f8cf6fe2f3f8613acbf509c8c954a478faec373835ddb2afed93f59", func := "ashlar/ashlarlaw07.CnfTells", spec := "cnfTells", inPlace := ["internal/bytealg.IndexByteString", "internal/bytealg.IndexString"], unfollowed := true, recurses := true, named := ["unicode/utf8.first", "unicode/utf8.acceptRanges", "internal/bytealg.MaxLen"], loops := true, apart := false, laid := [("unicode/utf8.acceptRanges", laid_unicode_utf8_acceptRanges), ("unicode/utf8.first", laid_unicode_utf8_first)] }
def CnfTellsSaid : Prop := cnfTellsRow.holds Tryd.pinned (OpenSpec.ofChange cnfTellsSpec)

/-- ITS FALSE NEIGHBOUR: 'it returns false'. Refute it at one input. -/
def cnfTellsWrong : ChangeSpec := { name := "cnfTells", fn := fun _ => fun
  | [d] => { results := [.lit (.bool false)], args := [d] }
  | _ => none }
def CnfTellsWrongFalsely : Prop := cnfTellsRow.holds Tryd.pinned (OpenSpec.ofChange cnfTellsWrong)

/-- 'ashlarlaw07.CnfMeans': WHATEVER THE INPUT: true; the input reads as it did. -/
def cnfMeansSpec : ChangeSpec := { name := "cnfMeans", fn := fun _ => fun
  | [d] => { results := [.lit (.bool true)], args := [d] }
  | _ => none }
def cnfMeansRow : OpenClaim := { program := "ythckboogibhjaaadoor", sum := "e2408e8a7f8cf6fe2f3f8613acbf509c8c954a478faec373835ddb2afed93f59", func := "ashlar/ashlarlaw07.CnfMeans", spec := "cnfMeans", inPlace := ["internal/bytealg.IndexByteString", "internal/bytealg.IndexString"], unfollowed := true, recurses := true, named := ["unicode/utf8.first", "unicode/utf8.acceptRanges", "internal/bytealg.MaxLen"], loops := true, apart := false, laid := [("unicode/utf8.acceptRanges", laid_unicode_utf8_acceptRanges), ("unicode/utf8.first", laid_unicode_utf8_first)] }
def CnfMeansSaid : Prop := cnfMeansRow.holds Tryd.pinned (OpenSpec.ofChange cnfMeansSpec)

/-- ITS FALSE NEIGHBOUR: 'it returns false'. Refute it at one input. -/
def cnfMeansWrong : ChangeSpec := { name := "cnfMeans", fn := fun _ => fun
  | [d] => { results := [.lit (.bool false)], args := [d] }
  | _ => none }
def CnfMeansWrongFalsely : Prop := cnfMeansRow.holds Tryd.pinned (OpenSpec.ofChange cnfMeansWrong)

/-- 'ashlarlaw07.CnfAtoms': WHATEVER THE INPUT: true; the input reads as it did. -/
def cnfAtomsSpec : ChangeSpec := { name := "cnfAtoms", fn := fun _ => fun
  | [d] => { results := [.lit (.bool true)], args := [d] }
  | _ => none }
def cnfAtomsRow : OpenClaim := { program := "ythckboogibhjaaadoor", sum := "e2408e8a7f8cf6fe2f3f8613acbf509c8c954a478faec373835ddb2afed93f59", func := "ashlar/ashlarlaw07.CnfAtoms", spec := "cnfAtoms", inPlace := ["internal/bytealg.IndexByteString", "internal/bytealg.IndexString"], unfollowed := true, recurses := true, named := ["unicode/utf8.first", "unicode/utf8.acceptRanges", "internal/bytealg.MaxLen"], loops := true, apart := false, laid := [("unicode/utf8.acceptRanges", laid_unicode_utf8_acceptRanges), ("unicode/utf8.first", laid_unicode_utf8_first)] }
def CnfAtomsSaid : Prop := cnfAtomsRow.holds Tryd.pinned (OpenSpec.ofChange cnfAtomsSpec)

/-- ITS FALSE NEIGHBOUR: 'it returns false'. Refute it at one input. -/
def cnfAtomsWrong : ChangeSpec := { name := "cnfAtoms", fn := fun _ => fun
  | [d] => { results := [.lit (.bool false)], args := [d] }
  | _ => none }
def CnfAtomsWrongFalsely : Prop := cnfAtomsRow.holds Tryd.pinned (OpenSpec.ofChange cnfAtomsWrong)

/-- 'ashlarlaw07.CnfNot': WHATEVER THE INPUT: true; the input reads as it did. -/
def cnfNotSpec : ChangeSpec := { name := "cnfNot", fn := fun _ => fun
  | [d] => { results := [.lit (.bool true)], args := [d] }
  | _ => none }
def cnfNotRow : OpenClaim := { program := "ythckboogibhjaaadoor", sum := "e2408e8a7f8cf6fe2f3f8613acbf509c8c954a478faec373835ddb2afed93f59", func := "ashlar/ashlarlaw07.CnfNot", spec := "cnfNot", inPlace := ["internal/bytealg.IndexByteString", "internal/bytealg.IndexString"], unfollowed := true, recurses := true, named := ["unicode/utf8.first", "unicode/utf8.acceptRanges", "internal/bytealg.MaxLen"], loops := true, apart := false, laid := [("unicode/utf8.acceptRanges", laid_unicode_utf8_acceptRanges), ("unicode/utf8.first", laid_unicode_utf8_first)] }
def CnfNotSaid : Prop := cnfNotRow.holds Tryd.pinned (OpenSpec.ofChange cnfNotSpec)

/-- ITS FALSE NEIGHBOUR: 'it returns false'. Refute it at one input. -/
def cnfNotWrong : ChangeSpec := { name := "cnfNot", fn := fun _ => fun
  | [d] => { results := [.lit (.bool false)], args := [d] }
  | _ => none }
def CnfNotWrongFalsely : Prop := cnfNotRow.holds Tryd.pinned (OpenSpec.ofChange cnfNotWrong)

/-- 'ashlarlaw07.CnfTwice': WHATEVER THE INPUT: true; the input reads as it did. -/
def cnfTwiceSpec : ChangeSpec := { name := "cnfTwice", fn := fun _ => fun
  | [d] => { results := [.lit (.bool true)], args := [d] }
  | _ => none }
def cnfTwiceRow : OpenClaim := { program := "ythckboogibhjaaadoor", sum := "e2408e8a7f8cf6fe2f3f8613acbf509c8c954a478faec373835ddb2afed93f59", func := "ashlar/ashlarlaw07.CnfTwice", spec := "cnfTwice", inPlace := ["internal/bytealg.IndexByteString", "internal/bytealg.IndexString"], unfollowed := true, recurses := true, named := ["unicode/utf8.first", "unicode/utf8.acceptRanges", "internal/bytealg.MaxLen"], loops := true, apart := false, laid := [("unicode/utf8.acceptRanges", laid_unicode_utf8_acceptRanges), ("unicode/utf8.first", laid_unicode_utf8_first)] }
def CnfTwiceSaid : Prop := cnfTwiceRow.holds Tryd.pinned (OpenSpec.ofChange cnfTwiceSpec)

/-- ITS FALSE NEIGHBOUR: 'it returns false'. Refute it at one input. -/
def cnfTwiceWrong : ChangeSpec := { name := "cnfTwice", fn := fun _ => fun
  | [d] => { results := [.lit (.bool false)], args := [d] }
  | _ => none }
def CnfTwiceWrongFalsely : Prop := cnfTwiceRow.holds Tryd.pinned (OpenSpec.ofChange cnfTwiceWrong)

/-- 'ashlarlaw07.CnfSizes': WHATEVER THE INPUT: true; the input reads as it did. -/
def cnfSizesSpec : ChangeSpec := { name := "cnfSizes", fn := fun _ => fun
  | [d] => { results := [.lit (.bool true)], args := [d] }
  | _ => none }
def cnfSizesRow : OpenClaim := { program := "ythckboogibhjaaadoor", sum := "e2408e8a7f8cf6fe2f3f8613acbf509c8c954a478faec373835ddb2afed93f59", func := "ashlar/ashlarlaw07.CnfSizes", spec := "cnfSizes", inPlace := ["internal/bytealg.IndexByteString", "internal/bytealg.IndexString"], unfollowed := true, recurses := true, named := ["unicode/utf8.first", "unicode/utf8.acceptRanges", "internal/bytealg.MaxLen"], loops := true, apart := false, laid := [("unicode/utf8.acceptRanges", laid_unicode_utf8_acceptRanges), ("unicode/utf8.first", laid_unicode_utf8_first)] }
def CnfSizesSaid : Prop := cnfSizesRow.holds Tryd.pinned (OpenSpec.ofChange cnfSizesSpec)

/-- ITS FALSE NEIGHBOUR: 'it returns false'. Refute it at one input. -/
def cnfSizesWrong : ChangeSpec := { name := "cnfSizes", fn := fun _ => fun
  | [d] => { results := [.lit (.bool false)], args := [d] }
  | _ => none }
def CnfSizesWrongFalsely : Prop := cnfSizesRow.holds Tryd.pinned (OpenSpec.ofChange cnfSizesWrong)

/- THE SECOND FORM. 'bulk': how many values and letters a reading holds, each counted each time it is reached (what is shared counts as often as it is met; a slice's spare places count too). A statement '..UptoSaid' is the law's where the arguments, and the package variables that the reading takes, are together of bulk at most 1048576: NARROWER than '..Said'. Prove '..Said' where nothing that the law and all that it calls make is longer than what came in: it says more and counts as full. Else prove '..UptoSaid'. A law counts once. -/
mutual
def uptoBulk {H : Type} : DataW H → Nat
  | .lit (.string bytes) => bytes.length + 1
  | .lit _ => 1
  | .nil => 1
  | .ptr d => uptoBulk d + 1
  | .slice elems spare => uptoBulkAll elems + uptoBulkAll spare + 1
  | .agg parts => uptoBulkAll parts + 1
  | .iface _ d => uptoBulk d + 1
  | .map entries => uptoBulkEntries entries + 1
  | .held _ => 1
def uptoBulkAll {H : Type} : List (DataW H) → Nat
  | [] => 0
  | d :: r => uptoBulk d + uptoBulkAll r
def uptoBulkEntries {H : Type} : List (Lit × DataW H) → Nat
  | [] => 0
  | x :: r => uptoBulkEntry x + uptoBulkEntries r
def uptoBulkEntry {H : Type} : Lit × DataW H → Nat
  | (.string bytes, d) => bytes.length + uptoBulk d + 1
  | (_, d) => uptoBulk d + 1
 end
def uptoSmall : (H : Type) → List (DataW H) → Bool := fun _ ds => decide (uptoBulkAll ds ≤ 1048576)
def OpenSpec.upto (s : _root_.Go.ChangeSpec) : _root_.Go.OpenSpec := { _root_.Go.OpenSpec.ofChange s with cond := some uptoSmall }

/-- 'ashlarlaw07.CnfTells', WHERE WHAT IT READS IS OF BULK AT MOST 1048576: true; the input reads as it did. -/
def cnfTellsUptoRow : OpenClaim := { program := "ythckboogibhjaaadoor", sum := "e2408e8a7f8cf6fe2f3f8613acbf509c8c954a478faec373835ddb2afed93f59", func := "ashlar/ashlarlaw07.CnfTells", spec := "cnfTells", inPlace := ["internal/bytealg.IndexByteString", "internal/bytealg.IndexString"], unfollowed := true, recurses := true, named := ["unicode/utf8.first", "unicode/utf8.acceptRanges", "internal/bytealg.MaxLen"], loops := true, apart := false, laid := [("unicode/utf8.acceptRanges", laid_unicode_utf8_acceptRanges), ("unicode/utf8.first", laid_unicode_utf8_first)], narrowed := true }
def CnfTellsUptoSaid : Prop := cnfTellsUptoRow.holds Tryd.pinned (OpenSpec.upto cnfTellsSpec)

/-- 'ashlarlaw07.CnfMeans', WHERE WHAT IT READS IS OF BULK AT MOST 1048576: true; the input reads as it did. -/
def cnfMeansUptoRow : OpenClaim := { program := "ythckboogibhjaaadoor", sum := "e2408e8a7f8cf6fe2f3f8613acbf509c8c954a478faec373835ddb2afed93f59", func := "ashlar/ashlarlaw07.CnfMeans", spec := "cnfMeans", inPlace := ["internal/bytealg.IndexByteString", "internal/bytealg.IndexString"], unfollowed := true, recurses := true, named := ["unicode/utf8.first", "unicode/utf8.acceptRanges", "internal/bytealg.MaxLen"], loops := true, apart := false, laid := [("unicode/utf8.acceptRanges", laid_unicode_utf8_acceptRanges), ("unicode/utf8.first", laid_unicode_utf8_first)], narrowed := true }
def CnfMeansUptoSaid : Prop := cnfMeansUptoRow.holds Tryd.pinned (OpenSpec.upto cnfMeansSpec)

/-- 'ashlarlaw07.CnfAtoms', WHERE WHAT IT READS IS OF BULK AT MOST 1048576: true; the input reads as it did. -/
def cnfAtomsUptoRow : OpenClaim := { program := "ythckboogibhjaaadoor", sum := "e2408e8a7f8cf6fe2f3f8613acbf509c8c954a478faec373835ddb2afed93f59", func := "ashlar/ashlarlaw07.CnfAtoms", spec := "cnfAtoms", inPlace := ["internal/bytealg.IndexByteString", "internal/bytealg.IndexString"], unfollowed := true, recurses := true, named := ["unicode/utf8.first", "unicode/utf8.acceptRanges", "internal/bytealg.MaxLen"], loops := true, apart := false, laid := [("unicode/utf8.acceptRanges", laid_unicode_utf8_acceptRanges), ("unicode/utf8.first", laid_unicode_utf8_first)], narrowed := true }
def CnfAtomsUptoSaid : Prop := cnfAtomsUptoRow.holds Tryd.pinned (OpenSpec.upto cnfAtomsSpec)

/-- 'ashlarlaw07.CnfNot', WHERE WHAT IT READS IS OF BULK AT MOST 1048576: true; the input reads as it did. -/
def cnfNotUptoRow : OpenClaim := { program := "ythckboogibhjaaadoor", sum := "e2408e8a7f8cf6fe2f3f8613acbf509c8c954a478faec373835ddb2afed93f59", func := "ashlar/ashlarlaw07.CnfNot", spec := "cnfNot", inPlace := ["internal/bytealg.IndexByteString", "internal/bytealg.IndexString"], unfollowed := true, recurses := true, named := ["unicode/utf8.first", "unicode/utf8.acceptRanges", "internal/bytealg.MaxLen"], loops := true, apart := false, laid := [("unicode/utf8.acceptRanges", laid_unicode_utf8_acceptRanges), ("unicode/utf8.first", laid_unicode_utf8_first)], narrowed := true }
def CnfNotUptoSaid : Prop := cnfNotUptoRow.holds Tryd.pinned (OpenSpec.upto cnfNotSpec)

/-- 'ashlarlaw07.CnfTwice', WHERE WHAT IT READS IS OF BULK AT MOST 1048576: true; the input reads as it did. -/
def cnfTwiceUptoRow : OpenClaim := { program := "ythckboogibhjaaadoor", sum := "e2408e8a7f8cf6fe2f3f8613acbf509c8c954a478faec373835ddb2afed93f59", func := "ashlar/ashlarlaw07.CnfTwice", spec := "cnfTwice", inPlace := ["internal/bytealg.IndexByteString", "internal/bytealg.IndexString"], unfollowed := true, recurses := true, named := ["unicode/utf8.first", "unicode/utf8.acceptRanges", "internal/bytealg.MaxLen"], loops := true, apart := false, laid := [("unicode/utf8.acceptRanges", laid_unicode_utf8_acceptRanges), ("unicode/utf8.first", laid_unicode_utf8_first)], narrowed := true }
def CnfTwiceUptoSaid : Prop := cnfTwiceUptoRow.holds Tryd.pinned (OpenSpec.upto cnfTwiceSpec)

/-- 'ashlarlaw07.CnfSizes', WHERE WHAT IT READS IS OF BULK AT MOST 1048576: true; the input reads as it did. -/
def cnfSizesUptoRow : OpenClaim := { program := "ythckboogibhjaaadoor", sum := "e2408e8a7f8cf6fe2f3f8613acbf509c8c954a478faec373835ddb2afed93f59", func := "ashlar/ashlarlaw07.CnfSizes", spec := "cnfSizes", inPlace := ["internal/bytealg.IndexByteString", "internal/bytealg.IndexString"], unfollowed := true, recurses := true, named := ["unicode/utf8.first", "unicode/utf8.acceptRanges", "internal/bytealg.MaxLen"], loops := true, apart := false, laid := [("unicode/utf8.acceptRanges", laid_unicode_utf8_acceptRanges), ("unicode/utf8.first", laid_unicode_utf8_first)], narrowed := true }
def CnfSizesUptoSaid : Prop := cnfSizesUptoRow.holds Tryd.pinned (OpenSpec.upto cnfSizesSpec)

end Rows
end Go.Proofs.YthckboogibhjaaaDoor
