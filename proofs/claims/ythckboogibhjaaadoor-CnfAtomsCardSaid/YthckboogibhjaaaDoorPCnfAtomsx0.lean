-- Written by a program of this session (myprint.py) out of the translation, with contracts of this session given.
import Derived.Test.YthckboogibhjaaaDoorProg
import Derived.Below
import Derived.Deep.Draws
import Derived.Deep.AppendLies
import Derived.Maps.AppendAt
import Derived.OwnWalk
import Derived.Laws.BytesArg
import Derived.Laws.MakeOwn
import Derived.Laws.OwnMore
import Derived.Deep.OwnRows
import Derived.Tactics
import Derived.Lib.ConvBytes
import Derived.Laws.Slices
import Derived.WalkKit
import Derived.KernelRfl
import Derived.RowKit3
import Derived.Deep.LoopGhost
import Derived.Deep.QuietTactic
import Derived.BigQuiet
import Derived.WideLaws
import Derived.Deep.DeepCutAuto
import Derived.Deep.CutBlock
import Derived.Deep.RegionHeld3
import Derived.Laws.Rows
import Derived.Lib.AppendStr
import Derived.ArgAppend
import Derived.Laws.IdiomCopy
import Derived.OrdersHeld
import Derived.Laws.BitsLemmas
import Derived.RowKit
import Derived.Test.YthckboogibhjaaaDoorTrmRs
import Derived.Test.YthckboogibhjaaaDoorTrmZ
import Derived.Test.YthckboogibhjaaaDoorWWords
import Derived.Test.YthckboogibhjaaaDoorWLast
import Derived.Test.YthckboogibhjaaaDoorWTab
import Derived.Test.YthckboogibhjaaaDoorWFour
import Derived.Test.YthckboogibhjaaaDoorWQPut
import Derived.Test.YthckboogibhjaaaDoorWApart
import Derived.Test.YthckboogibhjaaaDoorWArr
import Derived.Test.YthckboogibhjaaaDoorWZeros
import Derived.Test.YthckboogibhjaaaDoorWFoot
import Derived.Test.YthckboogibhjaaaDoorWKept
import Derived.Test.YthckboogibhjaaaDoorWShare
import Derived.Test.YthckboogibhjaaaDoorWN
import Derived.Test.YthckboogibhjaaaDoorWFootNe
import Derived.Test.YthckboogibhjaaaDoorWAt
import Derived.Test.YthckboogibhjaaaDoorWEqStruct
import Derived.Test.YthckboogibhjaaaDoorWRepsOne
import Derived.Test.YthckboogibhjaaaDoorWInv
import Derived.Test.YthckboogibhjaaaDoorWInvWords
import Derived.Test.YthckboogibhjaaaDoorWGuard
import Derived.Test.YthckboogibhjaaaDoorWNEv
import Derived.Test.YthckboogibhjaaaDoorWMore
namespace Go.Proofs.YthckboogibhjaaaDoor.PCnfAtoms
open Go.RowKit Go.Proofs.YthckboogibhjaaaDoor.Trm Go.Proofs.YthckboogibhjaaaDoorW.PrintWords Go.Proofs.YthckboogibhjaaaDoorW.PrintLast Go.Proofs.YthckboogibhjaaaDoorW.PrintMore
attribute [local go_sem] max2_int min2_int max_two min_two max_three min_three max_four min_four   -- for this text's walks alone
set_option linter.unusedVariables false
set_option linter.unusedSimpArgs false



theorem info4 : (Tryd.prog.info? 4).map (fun i => (i.zero, i.size, i.bytes)) = some (some (.bool false), 1, 1) := by kernel_rfl
-- the values' own types
/-! #### struct type 24, nested in itself -/
def rd_L3 (xs : List (List Int)) (i : Int) : (List Int) := xs.getD i.toNat ([] : List Int)
theorem at_L3 {w : World} {A : Option Addr} {n : Nat} {xs : List (List Int)} (h : Kd.C (Kd.slice 3 (Kd.int .i64)) w A n xs) (i : Int) (h0 : 0 ≤ i) (h1 : i < n) : ∃ ad A0 c0, A = some ad ∧ w.cell? (ad.add i.toNat) = some (.slice A0 (rd_L3 xs i).length c0) ∧ (rd_L3 xs i).length ≤ c0 ∧ (Kd.int .i64).C w A0 (rd_L3 xs i).length (rd_L3 xs i) := by
  obtain ⟨ad, c, e, _, hK, hc0⟩ := Kd.C_get h ([] : List Int) i h0 h1
  have hc : ∀ j u, c[j]? = some u → w.cell? (ad.add (i.toNat * 1 + j)) = some u := hc0
  obtain ⟨A0, c0, rfl, l0, g0⟩ := hK
  exact ⟨ad, A0, c0, e, by have hq := hc 0 _ rfl; rwa [Nat.mul_one, Nat.add_zero] at hq, l0, g0⟩

end Go.Proofs.YthckboogibhjaaaDoor.PCnfAtoms
