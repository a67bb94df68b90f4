/- Plain: linear.Solve as a function over the rationals, each of whose steps may find no room. -/
import Derived.Test.YtdkbnbebioflaaaRatQ
import Derived.Test.YtdkbnbebioflaaaSimE
namespace Go.Proofs.Ytdkbnbebioflaaa.Lin
open Go.RowKit Go.Proofs.Ytdkbnbebioflaaa.Given Go.Proofs.Ytdkbnbebioflaaa.Num Go.Proofs.Ytdkbnbebioflaaa.Sim
set_option linter.unusedVariables false
set_option linter.unusedSimpArgs false

def okQ (x : Rat) : Option Rat := if Fit x then some x else none
def okI (x : Int) : Option Int := if In64 x then some x else none
theorem okQ_fit {x : Rat} (h : Fit x) : okQ x = some x := if_pos h

structure Tab where
  basic : List Nat
  rows : List (List Rat)
  value : List Rat
  limits : List Rat

def rdQ (l : List Rat) (i : Nat) : Rat := l.getD i 0
def rdR (l : List (List Rat)) (i : Nat) : List Rat := l.getD i []
def rdN (l : List Nat) (i : Nat) : Nat := l.getD i 0
/-- The least one that is above its limit, by its place. -/
def wrongF (vars : Nat) (t : Tab) : Nat → Nat → Option Nat → Option Nat
  | 0, _, a => a
  | d + 1, i, a => wrongF vars t d (i + 1) (if vars ≤ rdN t.basic i ∧ rdQ t.limits (rdN t.basic i - vars) < rdQ t.value (rdN t.basic i) ∧ (∀ b, a = some b → rdN t.basic i < rdN t.basic b) then some i else a)
def wrong (vars : Nat) (t : Tab) : Option Nat := wrongF vars t t.basic.length 0 none
def goodQ (vars : Nat) (t : Tab) (row : List Rat) (v : Nat) : Prop := 0 < rdQ row v ∨ (rdQ row v < 0 ∧ (v < vars ∨ rdQ t.value v < rdQ t.limits (v - vars)))
instance (vars : Nat) (t : Tab) (row : List Rat) (v : Nat) : Decidable (goodQ vars t row v) := by unfold goodQ; infer_instance
/-- The least one that helps. -/
def helpsF (vars : Nat) (t : Tab) (row : List Rat) : Nat → Nat → Option Nat
  | 0, _ => none
  | d + 1, v => if goodQ vars t row v then some v else helpsF vars t row d (v + 1)
def helps (vars : Nat) (t : Tab) (i : Nat) : Option Nat := helpsF vars t (rdR t.rows i) (rdR t.rows i).length 0

def upd (t : Tab) (v a : Nat) (by_ : Rat) : Nat → Nat → List Rat → Option (List Rat)
  | 0, _, val => some val
  | d + 1, i, val => if i ≠ a ∧ rdQ (rdR t.rows i) v ≠ 0 then (okQ (rdQ (rdR t.rows i) v * by_)).bind fun p => (okQ (rdQ val (rdN t.basic i) + p)).bind fun x => upd t v a by_ d (i + 1) (val.set (rdN t.basic i) x) else upd t v a by_ d (i + 1) val
def nextF (c : Rat) : List Rat → Option (List Rat)
  | [] => some []
  | n :: l => (if n = 0 then some n else (okQ (n / c)).bind fun q => okQ (0 - q)).bind fun x => (nextF c l).bind fun r => some (x :: r)
def rowF (c : Rat) : List Rat → List Rat → Option (List Rat)
  | r :: row, n :: nx => (if n = 0 then some r else (okQ (c * n)).bind fun p => okQ (r + p)).bind fun x => (rowF c row nx).bind fun l => some (x :: l)
  | row, _ => some row
def rowsF (v a : Nat) (nx : List Rat) : Nat → List (List Rat) → Option (List (List Rat))
  | _, [] => some []
  | i, row :: l => (if i = a ∨ rdQ row v = 0 then some row else rowF (rdQ row v) (row.set v 0) nx).bind fun x => (rowsF v a nx (i + 1) l).bind fun r => some (x :: r)
def exchange (vars : Nat) (t : Tab) (a v : Nat) : Option Tab :=
  (okQ (rdQ t.limits (rdN t.basic a - vars) - rdQ t.value (rdN t.basic a))).bind fun r => (okQ (r / rdQ (rdR t.rows a) v)).bind fun by_ =>
  (okQ (rdQ (t.value.set (rdN t.basic a) (rdQ t.limits (rdN t.basic a - vars))) v + by_)).bind fun x =>
  (upd t v a by_ t.rows.length 0 ((t.value.set (rdN t.basic a) (rdQ t.limits (rdN t.basic a - vars))).set v x)).bind fun val =>
  (nextF (rdQ (rdR t.rows a) v) (((rdR t.rows a).set v 0).set (rdN t.basic a) (-1))).bind fun nx =>
  (rowsF v a nx 0 t.rows).bind fun rows => some ⟨t.basic.set a v, rows.set a nx, val, t.limits⟩

/-! An exchange that finds room. -/
end Go.Proofs.Ytdkbnbebioflaaa.Lin
