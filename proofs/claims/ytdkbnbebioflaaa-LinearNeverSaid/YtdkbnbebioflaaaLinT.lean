/- Plain: linear.Solve, and what it answers of small rows. -/
import Derived.Test.YtdkbnbebioflaaaLinC
namespace Go.Proofs.Ytdkbnbebioflaaa.Lin
open Go.RowKit Go.Proofs.Ytdkbnbebioflaaa.Given Go.Proofs.Ytdkbnbebioflaaa.Num Go.Proofs.Ytdkbnbebioflaaa.Sim
set_option linter.unusedVariables false
set_option linter.unusedSimpArgs false

def limF : List RowZ → Option (List Rat)
  | [] => some []
  | r :: l => (okI (-r.2)).bind fun x => (limF l).bind fun t => some ((x : Rat) :: t)
def made (rows : List RowZ) (vars : Nat) : Option Tab :=
  (limF rows).bind fun lim => some ⟨(List.range rows.length).map (vars + ·), rows.map (fun r => r.1.map (fun c : Int => (c : Rat)) ++ List.replicate (vars + rows.length - r.1.length) 0), List.replicate (vars + rows.length) 0, lim⟩
def mayQ (rows : List RowZ) (vars : Int) : Bool := decide (0 ≤ vars) && decide (vars ≤ 64) && decide (rows.length ≤ 256) && rows.all (fun r => decide ((r.1.length : Int) = vars))
def solve (rows : List RowZ) (vars fuel : Int) : Int × List Rat × List Int :=
  if mayQ rows vars = true then
    match (made rows vars.toNat).bind (loop vars.toNat fuel.toNat) with
    | none => (0, [], [])
    | some (a, p, w) => if a = 1 ∧ checkPoint rows p = false ∨ a = 2 ∧ checkFarkas rows w = false then (0, [], []) else (a, p, w)
  else (0, [], [])

end Go.Proofs.Ytdkbnbebioflaaa.Lin
