/- The plain law of NumDivides. -/
import Derived.Test.YtnggikhpnophgaaPNumDividesx1
import Derived.Test.YtnggikhpnophgaaNumT
namespace Go.Proofs.Ytnggikhpnophgaa.Pure
open Go.RowKit Go.Proofs.Ytnggikhpnophgaa.PNumDivides Go.Proofs.YtnggikhpnophgaaW.PrintWords Go.Proofs.YtnggikhpnophgaaW.PrintLast Go.Proofs.Ytnggikhpnophgaa.Given Go.Proofs.Ytnggikhpnophgaa.Num
set_option linter.unusedVariables false
set_option linter.unusedSimpArgs false

theorem tdiv_dvd {a g : Int} (hg : 0 < g) (h : g ∣ a) : a.tdiv g = a / g := by
  obtain ⟨c, rfl⟩ := h
  rw [Int.mul_tdiv_cancel_left _ (by omega), Int.mul_ediv_cancel_left _ (by omega)]

theorem NumDivides : ashlarlaw01_NumDivides.Pure := by
  intro a0 a1 h0 h1
  have A0 := in64_wf h0
  have A1 := in64_wf h1
  refine ⟨3, ?_⟩
  have hs : ashlarlaw01_shown.f = some true := rfl
  have e1 : num_Gcd.f a0 a1 = some (fitp (Int.gcd a0 a1)) := if_pos ⟨A0, A1⟩
  have e2 : num_Gcd.f a1 a0 = some (fitp (Int.gcd a0 a1)) := by
    unfold num_Gcd.f; rw [if_pos ⟨A1, A0⟩, Int.gcd_comm]
  have e3 : num_Sub.f a0 a1 = some (fitp (a0 - a1)) := if_pos ⟨A0, A1⟩
  unfold ashlarlaw01_NumDivides.f
  rw [hs, e1, e2]
  rw [Option.bind_some, Option.bind_some, Option.bind_some, if_pos rfl, if_neg (by rw [bne_self_eq_false]; exact Bool.false_ne_true)]
  have d0 := Int.gcd_dvd_left a0 a1
  have d1 := Int.gcd_dvd_right a0 a1
  have gz : (Int.gcd a0 a1 : Int) = 0 ↔ a0 = 0 ∧ a1 = 0 := by
    rw [← Int.gcd_eq_zero_iff]; omega
  have g0 : 0 ≤ (Int.gcd a0 a1 : Int) := by omega
  have cop : (Int.gcd a0 a1 : Int) ≠ 0 → Int.gcd (a0 / (Int.gcd a0 a1 : Int)) (a1 / (Int.gcd a0 a1 : Int)) = 1 := by
    intro hne
    exact Int.gcd_ediv_gcd_ediv_gcd (by omega)
  have esub : num_Gcd.f (fitp (a0 - a1)).1 a1 = some (fitp (Int.gcd (fitp (a0 - a1)).1 a1)) := if_pos ⟨fitp_in _, A1⟩
  have sg : Int.gcd (a0 - a1) a1 = Int.gcd a0 a1 := Int.gcd_sub_right_left_of_dvd _ (Int.dvd_refl a1)
  by_cases f : -9223372036854775808 ≤ (Int.gcd a0 a1 : Int) ∧ (Int.gcd a0 a1 : Int) < 9223372036854775808
  · have hf : fitp (Int.gcd a0 a1) = ((Int.gcd a0 a1 : Int), true) := if_pos f
    rw [hf]
    have ng : decide ((Int.gcd a0 a1 : Int) < 0) = false := decide_eq_false (by omega)
    simp only [ng]
    by_cases z : (Int.gcd a0 a1 : Int) = 0
    · have zz := gz.1 z
      simp [ashlarlaw01_NumDivides.j0, ashlarlaw01_NumDivides.j1, z, zz.1, zz.2]
    · have bz : ((Int.gcd a0 a1 : Int) == 0) = false := by simpa using z
      have t0 : Int.tmod a0 (Int.gcd a0 a1 : Int) = 0 := Int.tmod_eq_zero_of_dvd d0
      have t1 : Int.tmod a1 (Int.gcd a0 a1 : Int) = 0 := Int.tmod_eq_zero_of_dvd d1
      have i0 : In64 (a0 / (Int.gcd a0 a1 : Int)) := ediv_in A0 (by omega)
      have i1 : In64 (a1 / (Int.gcd a0 a1 : Int)) := ediv_in A1 (by omega)
      have w0 : wrap64 (Int.tdiv a0 (Int.gcd a0 a1 : Int)) = a0 / (Int.gcd a0 a1 : Int) := by rw [tdiv_dvd (by omega) d0, wrap_in i0]
      have w1 : wrap64 (Int.tdiv a1 (Int.gcd a0 a1 : Int)) = a1 / (Int.gcd a0 a1 : Int) := by rw [tdiv_dvd (by omega) d1, wrap_in i1]
      have eg : num_Gcd.f (a0 / (Int.gcd a0 a1 : Int)) (a1 / (Int.gcd a0 a1 : Int)) = some (1, true) := by
        unfold num_Gcd.f; rw [if_pos ⟨i0, i1⟩, cop z]; rfl
      have last : (fitp (a0 - a1)).2 = true → (fitp (Int.gcd (fitp (a0 - a1)).1 a1)) = ((Int.gcd a0 a1 : Int), true) := by
        intro h
        unfold fitp at h
        split at h
        · rename_i hin
          rw [show fitp (a0 - a1) = (a0 - a1, true) from if_pos hin]
          simp only []
          rw [sg, hf]
        · cases h
      simp only [ashlarlaw01_NumDivides.j0, ashlarlaw01_NumDivides.j1, ashlarlaw01_NumDivides.j2, bz, t0, t1, if_neg z, w0, w1, eg, e3, esub, Option.bind_some, Bool.false_eq_true, if_false, if_true, bne_self_eq_false]
      split
      · rename_i h
        rw [last h]
        simp
      · rfl
  · have hf : fitp (Int.gcd a0 a1) = (0, false) := if_neg f
    rw [hf]
    simp [ashlarlaw01_NumDivides.j0, ashlarlaw01_NumDivides.j1]

end Go.Proofs.Ytnggikhpnophgaa.Pure
