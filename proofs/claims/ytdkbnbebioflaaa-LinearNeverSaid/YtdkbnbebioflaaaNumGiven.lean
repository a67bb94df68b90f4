/- The contracts of num's functions, in the form in which a printed text meets a callee: Times and Over. -/
import Derived.Test.YtdkbnbebioflaaaNumGivenB
import Derived.Test.YtdkbnbebioflaaaNumS
namespace Go.Proofs.Ytdkbnbebioflaaa.Given
open Go.RowKit Go.Proofs.Ytdkbnbebioflaaa.Num

def timesR (p q r s : Int) : Int × Int × Bool :=
  if 0 < q ∧ 0 < s then if smallB p q = true ∧ smallB r s = true then mk (p * r) (q * s) else timesL p q r s else (0, 0, false)
theorem times_any (p q r s : Int) (w : World) (hp : In64 p) (hq : In64 q) (hr : In64 r) (hs : In64 s) :
    Calls Try.prog 46 #[RV p q, RV r s] w fun e w' => e = .returned (RB (timesR p q r s)) ∧ Below w.heap.size w w' := by
  unfold timesR
  by_cases h0 : 0 < q ∧ 0 < s
  · rw [if_pos h0]
    by_cases hk : smallB p q = true ∧ smallB r s = true
    · rw [if_pos hk]; exact times_small p q r s w h0.1 h0.2 hk.1 hk.2
    · rw [if_neg hk]; exact times_large p q r s w hp hq hr hs h0.1 h0.2 hk
  · rw [if_neg h0]; exact times_wrong p q r s w h0

def overR (p q r s : Int) : Int × Int × Bool :=
  if 0 < q ∧ 0 < s then if r = 0 then (0, 0, false) else if smallB p q = true ∧ smallB r s = true ∧ 0 < r then mk (p * s) (q * r) else overL p q r s else (0, 0, false)
theorem over_all (p q r s : Int) (w : World) (hp : In64 p) (hq : In64 q) (hr : In64 r) (hs : In64 s) :
    Calls Try.prog 60 #[RV p q, RV r s] w fun e w' => e = .returned (RB (overR p q r s)) ∧ Below w.heap.size w w' := by
  unfold overR
  by_cases h0 : 0 < q ∧ 0 < s
  · rw [if_pos h0]
    by_cases hr0 : r = 0
    · rw [if_pos hr0, hr0]; exact over_nought p q s w h0.1 h0.2
    · rw [if_neg hr0]
      by_cases hk : smallB p q = true ∧ smallB r s = true ∧ 0 < r
      · rw [if_pos hk]; exact over_small p q r s w h0.1 h0.2 hk.2.2 hk.1 hk.2.1
      · rw [if_neg hk]; exact over_large p q r s w hp hq hr hs h0.1 h0.2 hr0 hk
  · rw [if_neg h0]; exact over_wrong p q r s w h0

def num_Rat_Times.f (a0_0 a0_1 a1_0 a1_1 : Int) : Option (Int × Int × Bool) := if In64 a0_0 ∧ In64 a0_1 ∧ In64 a1_0 ∧ In64 a1_1 then some (timesR a0_0 a0_1 a1_0 a1_1) else none
theorem num_Rat_Times.calls (a0_0 a0_1 a1_0 a1_1 : Int) (r1 r2 : Int) (r3 : Bool) (w : World) (h : num_Rat_Times.f a0_0 a0_1 a1_0 a1_1 = some (r1, r2, r3)) :
    Calls Try.prog 46 #[.agg #[.int .i64 a0_0, .int .i64 a0_1], .agg #[.int .i64 a1_0, .int .i64 a1_1]] w fun e w' => e = .returned (.tuple #[.agg #[.int .i64 r1, .int .i64 r2], .bool r3]) ∧ Below w.heap.size w w' := by
  unfold num_Rat_Times.f at h
  split at h
  · rename_i hd
    have := times_any a0_0 a0_1 a1_0 a1_1 w hd.1 hd.2.1 hd.2.2.1 hd.2.2.2
    rw [Option.some.inj h] at this
    exact this
  · cases h

def num_Rat_Over.f (a0_0 a0_1 a1_0 a1_1 : Int) : Option (Int × Int × Bool) := if In64 a0_0 ∧ In64 a0_1 ∧ In64 a1_0 ∧ In64 a1_1 then some (overR a0_0 a0_1 a1_0 a1_1) else none
theorem num_Rat_Over.calls (a0_0 a0_1 a1_0 a1_1 : Int) (r1 r2 : Int) (r3 : Bool) (w : World) (h : num_Rat_Over.f a0_0 a0_1 a1_0 a1_1 = some (r1, r2, r3)) :
    Calls Try.prog 60 #[.agg #[.int .i64 a0_0, .int .i64 a0_1], .agg #[.int .i64 a1_0, .int .i64 a1_1]] w fun e w' => e = .returned (.tuple #[.agg #[.int .i64 r1, .int .i64 r2], .bool r3]) ∧ Below w.heap.size w w' := by
  unfold num_Rat_Over.f at h
  split at h
  · rename_i hd
    have := over_all a0_0 a0_1 a1_0 a1_1 w hd.1 hd.2.1 hd.2.2.1 hd.2.2.2
    rw [Option.some.inj h] at this
    exact this
  · cases h

end Go.Proofs.Ytdkbnbebioflaaa.Given
