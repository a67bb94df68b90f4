/- The plain law of NumEnds. -/
import Derived.Test.YtnggikhpnophgaaPNumEndsx1
import Derived.Test.YtnggikhpnophgaaNumT
namespace Go.Proofs.Ytnggikhpnophgaa.Pure
open Go.RowKit Go.Proofs.Ytnggikhpnophgaa.PNumEnds Go.Proofs.YtnggikhpnophgaaW.PrintWords Go.Proofs.YtnggikhpnophgaaW.PrintLast Go.Proofs.Ytnggikhpnophgaa.Given Go.Proofs.Ytnggikhpnophgaa.Num
set_option linter.unusedVariables false
set_option linter.unusedSimpArgs false

set_option maxHeartbeats 4000000 in
theorem NumEnds : ashlarlaw01_NumEnds.Pure := by
  intro a0 a1 h0 h1
  have A0 := in64_wf h0
  have A1 := in64_wf h1
  refine ⟨1, ?_⟩
  have hs : ashlarlaw01_shown.f = some true := rfl
  have e1 : num_Add.f a0 a1 = some (fitp (a0 + a1)) := if_pos ⟨A0, A1⟩
  have e2 : num_Sub.f a0 a1 = some (fitp (a0 - a1)) := if_pos ⟨A0, A1⟩
  have e3 : num_Neg.f a1 = some (fitp (-a1)) := if_pos A1
  have e4 : num_Add.f a0 (fitp (-a1)).1 = some (fitp (a0 + (fitp (-a1)).1)) := if_pos ⟨A0, fitp_in _⟩
  have e5 : num_Mul.f a0 1 = some (fitp (a0 * 1)) := if_pos ⟨A0, by decide, by decide⟩
  have e6 : num_Mul.f a1 0 = some (fitp (a1 * 0)) := if_pos ⟨A1, by decide, by decide⟩
  obtain ⟨l0, u0⟩ := A0
  obtain ⟨l1, u1⟩ := A1
  simp only [ashlarlaw01_NumEnds.f, ashlarlaw01_NumEnds.j0, hs, e1, e2, e3, e4, e5, e6, Option.bind_some, Int.mul_one, Int.mul_zero]
  clear e1 e2 e3 e4 e5 e6 hs h0 h1
  have f1 : fitp a0 = (a0, true) := if_pos ⟨l0, u0⟩
  have f2 : fitp 0 = (0, true) := rfl
  rw [f1, f2]
  by_cases n : -9223372036854775808 ≤ -a1 ∧ -a1 < 9223372036854775808
  · have f3 : fitp (-a1) = (-a1, true) := if_pos n
    rw [f3]
    simp only []
    rw [show a0 + -a1 = a0 - a1 by omega]
    by_cases s : -9223372036854775808 ≤ a0 + a1 ∧ a0 + a1 < 9223372036854775808
    · have f4 : fitp (a0 + a1) = (a0 + a1, true) := if_pos s
      have w : wrap64 (a0 + a1) = a0 + a1 := wrap_in s
      rw [f4, w]
      by_cases p : 0 ≤ a0 <;> by_cases q : 0 ≤ a1 <;> simp only [ge_iff_le, p, q, if_true, if_false] <;> (repeat' split) <;> first | rfl | (exfalso; omega) | (simp at *; omega) | simp_all
    · have f4 : fitp (a0 + a1) = (0, false) := if_neg s
      rw [f4]
      unfold wrap64
      by_cases p : 0 ≤ a0 <;> by_cases q : 0 ≤ a1 <;> simp only [ge_iff_le, p, q, if_true, if_false] <;> (repeat' split) <;> first | rfl | (exfalso; omega) | (simp at *; omega) | simp_all
  · have f3 : fitp (-a1) = (0, false) := if_neg n
    rw [f3]
    by_cases s : -9223372036854775808 ≤ a0 + a1 ∧ a0 + a1 < 9223372036854775808
    · have f4 : fitp (a0 + a1) = (a0 + a1, true) := if_pos s
      have w : wrap64 (a0 + a1) = a0 + a1 := wrap_in s
      rw [f4, w]
      by_cases p : 0 ≤ a0 <;> by_cases q : 0 ≤ a1 <;> simp only [ge_iff_le, p, q, if_true, if_false] <;> (repeat' split) <;> first | rfl | (exfalso; omega) | (simp at *; omega) | simp_all
    · have f4 : fitp (a0 + a1) = (0, false) := if_neg s
      rw [f4]
      unfold wrap64
      by_cases p : 0 ≤ a0 <;> by_cases q : 0 ≤ a1 <;> simp only [ge_iff_le, p, q, if_true, if_false] <;> (repeat' split) <;> first | rfl | (exfalso; omega) | (simp at *; omega) | simp_all

end Go.Proofs.Ytnggikhpnophgaa.Pure
