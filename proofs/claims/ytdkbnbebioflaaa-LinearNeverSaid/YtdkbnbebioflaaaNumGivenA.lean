/- The contracts of num's functions, in the form in which a printed text meets a callee: plain ones. -/
import Derived.Test.YtdkbnbebioflaaaNumU
namespace Go.Proofs.Ytdkbnbebioflaaa.Given
open Go.RowKit Go.Proofs.Ytdkbnbebioflaaa.Num

def num_Make.f (a0 a1 : Int) : Option (Int × Int × Bool) := if In64 a0 ∧ In64 a1 then some (mk a0 a1) else none
theorem num_Make.calls (a0 a1 : Int) (r1 r2 : Int) (r3 : Bool) (w : World) (h : num_Make.f a0 a1 = some (r1, r2, r3)) :
    Calls Try.prog 8 #[.int .i64 a0, .int .i64 a1] w fun e w' => e = .returned (.tuple #[.agg #[.int .i64 r1, .int .i64 r2], .bool r3]) ∧ Below w.heap.size w w' := by
  unfold num_Make.f at h
  split at h
  · rename_i hd
    have := Make_any a0 a1 w hd.1 hd.2
    rw [Option.some.inj h] at this
    exact this
  · cases h

def num_Add.f (a0 a1 : Int) : Option (Int × Bool) := if In64 a0 ∧ In64 a1 then some (fitp (a0 + a1)) else none
theorem num_Add.calls (a0 a1 : Int) (r1 : Int) (r2 : Bool) (w : World) (h : num_Add.f a0 a1 = some (r1, r2)) :
    Calls Try.prog 51 #[.int .i64 a0, .int .i64 a1] w fun e w' => e = .returned (.tuple #[.int .i64 r1, .bool r2]) ∧ Below w.heap.size w w' := by
  unfold num_Add.f at h
  split at h
  · rename_i hd
    have := Add_any a0 a1 w hd.1 hd.2
    rw [Option.some.inj h] at this
    exact this
  · cases h

def num_Sub.f (a0 a1 : Int) : Option (Int × Bool) := if In64 a0 ∧ In64 a1 then some (fitp (a0 - a1)) else none
def num_Mul.f (a0 a1 : Int) : Option (Int × Bool) := if In64 a0 ∧ In64 a1 then some (fitp (a0 * a1)) else none
theorem num_Mul.calls (a0 a1 : Int) (r1 : Int) (r2 : Bool) (w : World) (h : num_Mul.f a0 a1 = some (r1, r2)) :
    Calls Try.prog 52 #[.int .i64 a0, .int .i64 a1] w fun e w' => e = .returned (.tuple #[.int .i64 r1, .bool r2]) ∧ Below w.heap.size w w' := by
  unfold num_Mul.f at h
  split at h
  · rename_i hd
    have := Mul_any a0 a1 w hd.1 hd.2
    rw [Option.some.inj h] at this
    exact this
  · cases h

def num_Neg.f (a0 : Int) : Option (Int × Bool) := if In64 a0 then some (fitp (-a0)) else none
theorem num_Neg.calls (a0 : Int) (r1 : Int) (r2 : Bool) (w : World) (h : num_Neg.f a0 = some (r1, r2)) :
    Calls Try.prog 54 #[.int .i64 a0] w fun e w' => e = .returned (.tuple #[.int .i64 r1, .bool r2]) ∧ Below w.heap.size w w' := by
  unfold num_Neg.f at h
  split at h
  · rename_i hd
    have := Neg_any a0 w hd
    rw [Option.some.inj h] at this
    exact this
  · cases h

def num_Gcd.f (a0 a1 : Int) : Option (Int × Bool) := if In64 a0 ∧ In64 a1 then some (fitp (Int.gcd a0 a1)) else none
theorem num_Gcd.calls (a0 a1 : Int) (r1 : Int) (r2 : Bool) (w : World) (h : num_Gcd.f a0 a1 = some (r1, r2)) :
    Calls Try.prog 58 #[.int .i64 a0, .int .i64 a1] w fun e w' => e = .returned (.tuple #[.int .i64 r1, .bool r2]) ∧ Below w.heap.size w w' := by
  unfold num_Gcd.f at h
  split at h
  · rename_i hd
    have := Gcd_any a0 a1 w hd.1 hd.2
    rw [Option.some.inj h] at this
    exact this
  · cases h

def num_Rat_Cmp.f (a0_0 a0_1 a1_0 a1_1 : Int) : Option Int := if In64 a0_0 ∧ In64 a0_1 ∧ In64 a1_0 ∧ In64 a1_1 then some (cmpI (a0_0 * a1_1 - a1_0 * a0_1)) else none
theorem num_Rat_Cmp.calls (a0_0 a0_1 a1_0 a1_1 : Int) (r : Int) (w : World) (h : num_Rat_Cmp.f a0_0 a0_1 a1_0 a1_1 = some r) :
    Calls Try.prog 56 #[.agg #[.int .i64 a0_0, .int .i64 a0_1], .agg #[.int .i64 a1_0, .int .i64 a1_1]] w fun e w' => e = .returned (.int .i64 r) ∧ Below w.heap.size w w' := by
  unfold num_Rat_Cmp.f at h
  split at h
  · rename_i hd
    have := Cmp_any a0_0 a0_1 a1_0 a1_1 w hd.1 hd.2.1 hd.2.2.1 hd.2.2.2
    rw [Option.some.inj h] at this
    exact this
  · cases h

end Go.Proofs.Ytdkbnbebioflaaa.Given
