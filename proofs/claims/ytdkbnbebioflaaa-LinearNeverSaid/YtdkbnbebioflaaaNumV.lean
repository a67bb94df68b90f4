/- Contracts of num: what Times and Over answer at large numbers. -/
import Derived.Test.YtdkbnbebioflaaaNumQ
import Derived.Test.YtdkbnbebioflaaaNumR
namespace Go.Proofs.Ytdkbnbebioflaaa.Num
open Go.RowKit
set_option linter.unusedVariables false
set_option linter.unusedSimpArgs false

theorem cf_times1 (args : Array Value) (w : World) : (callFunc 65 args).run Try.prog w = .ok (.enter 65 args) w := by kernel_rfl
theorem cf_over1 (args : Array Value) (w : World) : (callFunc 74 args).run Try.prog w = .ok (.enter 74 args) w := by kernel_rfl

def timesX (p q r s : Int) : Int := if sg p r = true then -(sz p / (Int.gcd p s : Int) * (sz r / (Int.gcd r q : Int))) else sz p / (Int.gcd p s : Int) * (sz r / (Int.gcd r q : Int))
def timesL (p q r s : Int) : Int × Int × Bool := both (timesX p q r s) (q / (Int.gcd r q : Int) * (s / (Int.gcd p s : Int)))

theorem times1_fits (p q r s : Int) (w : World) (ba bb : Nat) (hp : In64 p) (hq : In64 q) (hr : In64 r) (hs : In64 s) (q0 : 0 < q) (s0 : 0 < s)
    (ca : w.cell? ⟨ba, 0, none⟩ = some (.int .i64 p)) (ca1 : w.cell? ⟨ba, 1, none⟩ = some (.int .i64 q)) (cb : w.cell? ⟨bb, 0, none⟩ = some (.int .i64 r)) (cb1 : w.cell? ⟨bb, 1, none⟩ = some (.int .i64 s)) :
    Calls Try.prog 12 #[.func (.func 65) #[] #[.pointer (some ⟨ba, 0, none⟩), .pointer (some ⟨bb, 0, none⟩)]] w fun e w' => e = .returned (RB (timesL p q r s)) ∧ Below w.heap.size w w' := by
  unfold timesL both
  by_cases hf : In64 (timesX p q r s) ∧ In64 (q / (Int.gcd r q : Int) * (s / (Int.gcd p s : Int)))
  · rw [if_pos hf]
    exact fitsR_ok _ _ _ _ w (cf_times1 _) (fun W hW => times1_ok p q r s _ _ _ _ _ _ ba bb W hp hq hr hs q0 s0 (keepcell hW ca) (keepcell hW ca1) (keepcell hW cb) (keepcell hW cb1) rfl rfl rfl rfl rfl rfl _ rfl hf)
  · rw [if_neg hf]
    exact fitsR_no _ _ w (cf_times1 _) (fun W hW => times1_no p q r s _ _ _ _ _ _ ba bb W hp hq hr hs q0 s0 (keepcell hW ca) (keepcell hW ca1) (keepcell hW cb) (keepcell hW cb1) rfl rfl rfl rfl rfl rfl _ rfl hf)

def overX (p q r s : Int) : Int := if sg p r = true then -(sz p / (Int.gcd p r : Int) * (s / (Int.gcd s q : Int))) else sz p / (Int.gcd p r : Int) * (s / (Int.gcd s q : Int))
def overL (p q r s : Int) : Int × Int × Bool := both (overX p q r s) (q / (Int.gcd s q : Int) * (sz r / (Int.gcd p r : Int)))

theorem over1_fits (p q r s : Int) (w : World) (ba bb : Nat) (hp : In64 p) (hq : In64 q) (hr : In64 r) (hs : In64 s) (q0 : 0 < q) (s0 : 0 < s) (r0 : r ≠ 0)
    (ca : w.cell? ⟨ba, 0, none⟩ = some (.int .i64 p)) (ca1 : w.cell? ⟨ba, 1, none⟩ = some (.int .i64 q)) (cb : w.cell? ⟨bb, 0, none⟩ = some (.int .i64 r)) (cb1 : w.cell? ⟨bb, 1, none⟩ = some (.int .i64 s)) :
    Calls Try.prog 12 #[.func (.func 74) #[] #[.pointer (some ⟨bb, 0, none⟩), .pointer (some ⟨ba, 0, none⟩)]] w fun e w' => e = .returned (RB (overL p q r s)) ∧ Below w.heap.size w w' := by
  unfold overL both
  by_cases hf : In64 (overX p q r s) ∧ In64 (q / (Int.gcd s q : Int) * (sz r / (Int.gcd p r : Int)))
  · rw [if_pos hf]
    exact fitsR_ok _ _ _ _ w (cf_over1 _) (fun W hW => over1_ok p q r s _ _ _ _ _ _ _ ba bb W hp hq hr hs q0 s0 r0 (keepcell hW ca) (keepcell hW ca1) (keepcell hW cb) (keepcell hW cb1) rfl rfl rfl rfl rfl rfl rfl hf)
  · rw [if_neg hf]
    exact fitsR_no _ _ w (cf_over1 _) (fun W hW => over1_no p q r s _ _ _ _ _ _ _ ba bb W hp hq hr hs q0 s0 r0 (keepcell hW ca) (keepcell hW ca1) (keepcell hW cb) (keepcell hW cb1) rfl rfl rfl rfl rfl rfl rfl hf)

end Go.Proofs.Ytdkbnbebioflaaa.Num
