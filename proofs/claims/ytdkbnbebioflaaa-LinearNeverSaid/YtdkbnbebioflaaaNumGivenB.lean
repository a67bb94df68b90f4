/- The contracts of num's functions, in the form in which a printed text meets a callee: Plus and Minus. -/
import Derived.Test.YtdkbnbebioflaaaNumGivenA
import Derived.Test.YtdkbnbebioflaaaNumR
namespace Go.Proofs.Ytdkbnbebioflaaa.Given
open Go.RowKit Go.Proofs.Ytdkbnbebioflaaa.Num

def sumR (p q r s : Int) (t : Bool) : Int × Int × Bool :=
  if 0 < q ∧ 0 < s then if smallB p q = true ∧ smallB r s = true then mk (top p q r s t) (q * s) else sumL p q r s t else (0, 0, false)
theorem sum_any (p q r s : Int) (t : Bool) (w : World) (hp : In64 p) (hq : In64 q) (hr : In64 r) (hs : In64 s) :
    Calls Try.prog 61 #[RV p q, RV r s, .bool t] w fun e w' => e = .returned (RB (sumR p q r s t)) ∧ Below w.heap.size w w' := by
  unfold sumR
  by_cases h0 : 0 < q ∧ 0 < s
  · rw [if_pos h0]
    by_cases hk : smallB p q = true ∧ smallB r s = true
    · rw [if_pos hk]; exact sum_small p q r s t w h0.1 h0.2 hk.1 hk.2
    · rw [if_neg hk]; exact sum_large p q r s t w hp hq hr hs h0.1 h0.2 hk
  · rw [if_neg h0]; exact sum_wrong p q r s t w h0

def num_Rat_Plus.f (a0_0 a0_1 a1_0 a1_1 : Int) : Option (Int × Int × Bool) := if In64 a0_0 ∧ In64 a0_1 ∧ In64 a1_0 ∧ In64 a1_1 then some (sumR a0_0 a0_1 a1_0 a1_1 false) else none
theorem num_Rat_Plus.calls (a0_0 a0_1 a1_0 a1_1 : Int) (r1 r2 : Int) (r3 : Bool) (w : World) (h : num_Rat_Plus.f a0_0 a0_1 a1_0 a1_1 = some (r1, r2, r3)) :
    Calls Try.prog 45 #[.agg #[.int .i64 a0_0, .int .i64 a0_1], .agg #[.int .i64 a1_0, .int .i64 a1_1]] w fun e w' => e = .returned (.tuple #[.agg #[.int .i64 r1, .int .i64 r2], .bool r3]) ∧ Below w.heap.size w w' := by
  unfold num_Rat_Plus.f at h
  split at h
  · rename_i hd
    have := Plus_of a0_0 a0_1 a1_0 a1_1 _ w (fun W => sum_any a0_0 a0_1 a1_0 a1_1 false W hd.1 hd.2.1 hd.2.2.1 hd.2.2.2)
    rw [Option.some.inj h] at this
    exact this
  · cases h

def num_Rat_Minus.f (a0_0 a0_1 a1_0 a1_1 : Int) : Option (Int × Int × Bool) := if In64 a0_0 ∧ In64 a0_1 ∧ In64 a1_0 ∧ In64 a1_1 then some (sumR a0_0 a0_1 a1_0 a1_1 true) else none
theorem num_Rat_Minus.calls (a0_0 a0_1 a1_0 a1_1 : Int) (r1 r2 : Int) (r3 : Bool) (w : World) (h : num_Rat_Minus.f a0_0 a0_1 a1_0 a1_1 = some (r1, r2, r3)) :
    Calls Try.prog 57 #[.agg #[.int .i64 a0_0, .int .i64 a0_1], .agg #[.int .i64 a1_0, .int .i64 a1_1]] w fun e w' => e = .returned (.tuple #[.agg #[.int .i64 r1, .int .i64 r2], .bool r3]) ∧ Below w.heap.size w w' := by
  unfold num_Rat_Minus.f at h
  split at h
  · rename_i hd
    have := Minus_of a0_0 a0_1 a1_0 a1_1 _ w (fun W => sum_any a0_0 a0_1 a1_0 a1_1 true W hd.1 hd.2.1 hd.2.2.1 hd.2.2.2)
    rw [Option.some.inj h] at this
    exact this
  · cases h

end Go.Proofs.Ytdkbnbebioflaaa.Given
