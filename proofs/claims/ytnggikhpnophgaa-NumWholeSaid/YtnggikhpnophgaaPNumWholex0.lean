-- Written by a program of this session (myprint.py) out of the translation, with contracts of this session given.
import Derived.Test.YtnggikhpnophgaaProg
import Derived.Below
import Derived.Deep.Draws
import Derived.Deep.AppendLies
import Derived.Maps.AppendAt
import Derived.OwnWalk
import Derived.Laws.BytesArg
import Derived.Laws.MakeOwn
import Derived.Laws.OwnMore
import Derived.Deep.OwnRows
import Derived.Tactics
import Derived.Lib.ConvBytes
import Derived.Laws.Slices
import Derived.WalkKit
import Derived.KernelRfl
import Derived.RowKit3
import Derived.Deep.LoopGhost
import Derived.Deep.QuietTactic
import Derived.BigQuiet
import Derived.WideLaws
import Derived.Deep.DeepCutAuto
import Derived.Deep.CutBlock
import Derived.Deep.RegionHeld3
import Derived.Laws.Rows
import Derived.Lib.AppendStr
import Derived.ArgAppend
import Derived.Laws.IdiomCopy
import Derived.OrdersHeld
import Derived.Laws.BitsLemmas
import Derived.RowKit
import Derived.Test.YtnggikhpnophgaaRefShown
import Derived.Test.YtnggikhpnophgaaWWords
import Derived.Test.YtnggikhpnophgaaWLast
import Derived.Test.YtnggikhpnophgaaWTab
import Derived.Test.YtnggikhpnophgaaWFour
import Derived.Test.YtnggikhpnophgaaWQPut
import Derived.Test.YtnggikhpnophgaaWApart
import Derived.Test.YtnggikhpnophgaaWArr
import Derived.Test.YtnggikhpnophgaaWZeros
import Derived.Test.YtnggikhpnophgaaWFoot
import Derived.Test.YtnggikhpnophgaaWKept
import Derived.Test.YtnggikhpnophgaaWShare
import Derived.Test.YtnggikhpnophgaaWN
import Derived.Test.YtnggikhpnophgaaWFootNe
import Derived.Test.YtnggikhpnophgaaWAt
import Derived.Test.YtnggikhpnophgaaWEqStruct
import Derived.Test.YtnggikhpnophgaaWRepsOne
import Derived.Test.YtnggikhpnophgaaWInv
import Derived.Test.YtnggikhpnophgaaWInvWords
import Derived.Test.YtnggikhpnophgaaWGuard
import Derived.Test.YtnggikhpnophgaaWNEv
import Derived.Test.YtnggikhpnophgaaWMore
namespace Go.Proofs.Ytnggikhpnophgaa.PNumWhole
open Go.RowKit Go.Proofs.Ytnggikhpnophgaa.Given Go.Proofs.YtnggikhpnophgaaW.PrintWords Go.Proofs.YtnggikhpnophgaaW.PrintLast Go.Proofs.YtnggikhpnophgaaW.PrintMore
attribute [local go_sem] max2_int min2_int max_two min_two max_three min_three max_four min_four   -- for this text's walks alone
set_option linter.unusedVariables false
set_option linter.unusedSimpArgs false



def errW : Option Int → Value
  | none => .nilIface
  | some c => .iface 0 (.int .i64 c)
theorem errW_none : errW none = .nilIface := rfl
theorem errW_some (c : Int) : errW (some c) = .iface 0 (.int .i64 c) := rfl

theorem info3 : (Try.prog.info? 3).map (fun i => (i.zero, i.size, i.bytes)) = some (some (.int .i64 0), 1, 8) := by kernel_rfl
-- the values' own types

end Go.Proofs.Ytnggikhpnophgaa.PNumWhole
