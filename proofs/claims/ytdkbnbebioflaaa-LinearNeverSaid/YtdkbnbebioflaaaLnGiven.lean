/- linear's CheckPoint and CheckFarkas, in the form in which a printed text meets a callee. -/
import Derived.Test.YtdkbnbebioflaaaLnL
namespace Go.Proofs.Ytdkbnbebioflaaa.Given
open Go.RowKit Go.Proofs.Ytdkbnbebioflaaa.Num Go.Proofs.Ytdkbnbebioflaaa.Ln Go.Proofs.YtdkbnbebioflaaaW.PrintWords

def RowIn (r : S38) : Prop := In64 r.f1 ∧ ∀ x, x ∈ r.f0 → In64 x
instance (r : S38) : Decidable (RowIn r) := by unfold RowIn In64; infer_instance
def RatIn (x : S29) : Prop := In64 x.f0 ∧ In64 x.f1
instance (x : S29) : Decidable (RatIn x) := by unfold RatIn In64; infer_instance
instance (x : Int) : Decidable (In64 x) := by unfold In64; infer_instance

def linear_CheckPoint.f (l0 : List S38) (l1 : List S29) : Option Bool := if (∀ r, r ∈ l0 → RowIn r) ∧ ∀ x, x ∈ l1 → RatIn x then some (chkP l0 l1) else none
theorem linear_CheckPoint.calls (A0 : Option Addr) (c0 : Nat) (l0 : List S38) (A1 : Option Addr) (c1 : Nat) (l1 : List S29) (r : Bool) (w : World) (hr0 : Kd.C k38 w A0 l0.length l0) (hc0 : l0.length ≤ c0) (hr1 : Kd.C k29 w A1 l1.length l1) (hc1 : l1.length ≤ c1) (h : linear_CheckPoint.f l0 l1 = some r) :
    Calls Try.prog 9 #[.slice A0 l0.length c0, .slice A1 l1.length c1] w fun e w' => e = .returned (.bool r) ∧ Below w.heap.size w w' := by
  unfold linear_CheckPoint.f at h
  split at h
  · rename_i hd
    rw [← Option.some.inj h]
    exact CheckPoint_any l0 l1 A0 A1 c0 c1 w hr0 hc0 hr1 hc1 hd.1 hd.2
  · cases h

def linear_CheckFarkas.f (l0 : List S38) (l1 : List Int) : Option Bool := if (∀ r, r ∈ l0 → RowIn r) ∧ ∀ x, x ∈ l1 → In64 x then some (chkF l0 l1) else none
theorem linear_CheckFarkas.calls (A0 : Option Addr) (c0 : Nat) (l0 : List S38) (A1 : Option Addr) (c1 : Nat) (l1 : List Int) (r : Bool) (w : World) (hr0 : Kd.C k38 w A0 l0.length l0) (hc0 : l0.length ≤ c0) (hr1 : Kd.C (Kd.int .i64) w A1 l1.length l1) (hc1 : l1.length ≤ c1) (h : linear_CheckFarkas.f l0 l1 = some r) :
    Calls Try.prog 10 #[.slice A0 l0.length c0, .slice A1 l1.length c1] w fun e w' => e = .returned (.bool r) ∧ Below w.heap.size w w' := by
  unfold linear_CheckFarkas.f at h
  split at h
  · rename_i hd
    rw [← Option.some.inj h]
    exact CheckFarkas_any l0 l1 A0 A1 c0 c1 w hr0 hc0 hr1 hc1 hd.1 hd.2
  · cases h

end Go.Proofs.Ytdkbnbebioflaaa.Given
