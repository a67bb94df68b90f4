/- linear's Solve, in the form in which a printed text meets a callee. -/
import Derived.Test.YtdkbnbebioflaaaLnS3
namespace Go.Proofs.Ytdkbnbebioflaaa.Given
open Go.RowKit Go.Proofs.Ytdkbnbebioflaaa.Num Go.Proofs.Ytdkbnbebioflaaa.Ln Go.Proofs.Ytdkbnbebioflaaa.Lin Go.Proofs.YtdkbnbebioflaaaW.PrintWords
set_option linter.unusedVariables false

def linear_Solve.f (l0 : List S38) (a1 a2 : Int) : Option (Int × List S29 × List Int) :=
  if (∀ r, r ∈ l0 → RowIn r) ∧ In64 a2 then some ((solve (l0.map toZ) a1 a2).1, (solve (l0.map toZ) a1 a2).2.1.map ofQ, (solve (l0.map toZ) a1 a2).2.2) else none
theorem linear_Solve.calls (A0 : Option Addr) (c0 : Nat) (l0 : List S38) (a1 a2 : Int) (r0 : Int) (r1 : List S29) (r2 : List Int) (w : World) (hr0 : Kd.C k38 w A0 l0.length l0) (hc0 : l0.length ≤ c0) (h : linear_Solve.f l0 a1 a2 = some (r0, r1, r2)) :
    Calls Try.prog 11 #[.slice A0 l0.length c0, .int .i64 a1, .int .i64 a2] w fun e w' => ∃ v1_ v2_ : Value, e = .returned (.tuple #[.int .i64 r0, v1_, v2_]) ∧ Kd.R k29 29 w' w.heap.size (fun _ => True) v1_ r1 ∧ Kd.R (Kd.int .i64) 2 w' w.heap.size (fun _ => True) v2_ r2 ∧ Below w.heap.size w w' := by
  unfold linear_Solve.f at h
  split at h
  · rename_i hd
    injection h with h
    injection h with h1 h2
    injection h2 with h2 h3
    subst h1
    subst h2
    subst h3
    refine (Solve_any l0 A0 c0 a1 a2 w hr0 hc0 hd.1 hd.2).mono ?_
    rintro e w' ⟨⟨vp, vw, rfl, hp, hw⟩, hb⟩
    exact ⟨vp, vw, rfl, Kd.R_mono (RowQ.toR hp) (fun _ _ => trivial), Kd.R_mono (RowI.toR hw) (fun _ _ => trivial), hb⟩
  · cases h

end Go.Proofs.Ytdkbnbebioflaaa.Given
