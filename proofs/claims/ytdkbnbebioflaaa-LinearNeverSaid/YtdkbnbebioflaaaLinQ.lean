/- Plain: on small rows linear's exchange always finds room, and tells the simplex's next state. -/
import Derived.Test.YtdkbnbebioflaaaLinP
namespace Go.Proofs.Ytdkbnbebioflaaa.Lin
open Go.RowKit Go.Proofs.Ytdkbnbebioflaaa.Given Go.Proofs.Ytdkbnbebioflaaa.Num Go.Proofs.Ytdkbnbebioflaaa.Sim
set_option linter.unusedVariables false
set_option linter.unusedSimpArgs false

theorem rdR_set {l : List (List Rat)} {i : Nat} (h : i < l.length) (x : List Rat) (k : Nat) : rdR (l.set i x) k = if k = i then x else rdR l k := by
  unfold rdR
  rw [List.getD_eq_getElem?_getD, List.getD_eq_getElem?_getD, List.getElem?_set]
  by_cases e : i = k
  · rw [if_pos e, if_pos h, if_pos e.symm]; rfl
  · rw [if_neg e, if_neg (fun e' => e e'.symm)]
theorem rdN_set {l : List Nat} {i : Nat} (h : i < l.length) (x : Nat) (k : Nat) : rdN (l.set i x) k = if k = i then x else rdN l k := by
  unfold rdN
  rw [List.getD_eq_getElem?_getD, List.getD_eq_getElem?_getD, List.getElem?_set]
  by_cases e : i = k
  · rw [if_pos e, if_pos h, if_pos e.symm]; rfl
  · rw [if_neg e, if_neg (fun e' => e e'.symm)]

end Go.Proofs.Ytdkbnbebioflaaa.Lin
