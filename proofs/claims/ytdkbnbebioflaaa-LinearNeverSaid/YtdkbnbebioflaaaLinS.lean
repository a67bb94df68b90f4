/- Plain: linear.Solve's loop; on small rows it ends, with a point or with weights. -/
import Derived.Test.YtdkbnbebioflaaaLinQ
namespace Go.Proofs.Ytdkbnbebioflaaa.Lin
open Go.RowKit Go.Proofs.Ytdkbnbebioflaaa.Given Go.Proofs.Ytdkbnbebioflaaa.Num Go.Proofs.Ytdkbnbebioflaaa.Sim
set_option linter.unusedVariables false
set_option linter.unusedSimpArgs false

/-- Weights, as they stand in a row. -/
def wrow (vars : Nat) (row : List Rat) : Nat → Nat → Option (List Rat)
  | 0, _ => some []
  | d + 1, j => (okQ (0 - rdQ row (vars + j))).bind fun x => (wrow vars row d (j + 1)).bind fun l => some (x :: l)
def leastF : List Rat → Int → Option Int
  | [], n => some n
  | x :: l, n => (okI (Int.gcd n x.den)).bind fun g => (okI (n * ((x.den : Int) / g))).bind fun n' => leastF l n'
def wholeF (n : Int) : List Rat → Option (List Int)
  | [] => some []
  | x :: l => (okI (x.num * (n / (x.den : Int)))).bind fun z => (wholeF n l).bind fun r => some (z :: r)
def weights (vars : Nat) (t : Tab) (a : Nat) : Option (List Int) :=
  (wrow vars (rdR t.rows a) t.limits.length 0).bind fun l => (leastF (l.set (rdN t.basic a - vars) 1) 1).bind fun n => wholeF n (l.set (rdN t.basic a - vars) 1)
/-- The loop. -/
def loop (vars : Nat) : Nat → Tab → Option (Int × List Rat × List Int)
  | f, t => match wrong vars t with
    | none => some (1, t.value.take vars, [])
    | some a => match helps vars t a with
      | none => (weights vars t a).map fun w => (2, [], w)
      | some v => match f with
        | 0 => some (0, [], [])
        | f + 1 => (exchange vars t a v).bind (loop vars f)

/-! Weights are made whole. -/
theorem whole_q {x : Rat} {n : Nat} (h : x.den ∣ n) : ((x.num * ((n : Int) / (x.den : Int)) : Int) : Rat) = x * (n : Int) := by
  obtain ⟨k, rfl⟩ := h
  have h0 := ne_den x
  have : ((x.den * k : Nat) : Int) / (x.den : Int) = (k : Int) := by rw [Int.natCast_mul]; exact Int.mul_ediv_cancel_left _ h0
  rw [this, Rat.intCast_mul, ← num_eq x, Int.natCast_mul, Rat.intCast_mul]; grind
end Go.Proofs.Ytdkbnbebioflaaa.Lin
