/- The plain law of NumRounds. -/
import Derived.Test.YtnggikhpnophgaaPNumRoundsx1
import Derived.Test.YtnggikhpnophgaaPNumRoundsx2
import Derived.Test.YtnggikhpnophgaaNumT
namespace Go.Proofs.Ytnggikhpnophgaa.Pure
open Go.RowKit Go.Proofs.Ytnggikhpnophgaa.PNumRounds Go.Proofs.YtnggikhpnophgaaW.PrintWords Go.Proofs.YtnggikhpnophgaaW.PrintLast Go.Proofs.Ytnggikhpnophgaa.Given Go.Proofs.Ytnggikhpnophgaa.Num
set_option linter.unusedVariables false
set_option linter.unusedSimpArgs false

theorem floor_is {P Q : Int} (hP : In64 P) (hQ : 0 < Q) : num_Rat_Floor.f P Q = some (P / Q) := by
  have hF := ediv_in hP hQ
  have hF' := hF
  obtain ⟨c, d⟩ := hF
  unfold num_Rat_Floor.f num_Rat_right.f
  simp only [Option.bind_some, gt_iff_lt, hQ, decide_true, if_true]
  rw [if_neg (by omega)]
  rcases tdiv_floor (P := P) hQ with ⟨h1, h2, h3⟩ | ⟨h1, h2⟩
  · rw [if_pos h1]
    congr 1
    rw [show wrap64 (wrap64 (P.tdiv Q) - 1) = wrap64 (P.tdiv Q - 1) by unfold wrap64; omega, h2, wrap_in hF']
  · rw [if_neg h1, h2, wrap_in hF']
theorem ceil_is {P Q : Int} (hP : In64 P) (hQ : 0 < Q) : num_Rat_Ceil.f P Q = some (if P % Q = 0 then P / Q else wrap64 (P / Q + 1)) := by
  unfold num_Rat_Ceil.f
  rw [floor_is hP hQ]
  unfold num_Rat_right.f
  simp only [Option.bind_some, gt_iff_lt, hQ, decide_true, if_true]
  rw [if_neg (by omega)]
  have k : P.tmod Q = 0 ↔ P % Q = 0 := by
    rw [← Int.dvd_iff_tmod_eq_zero, ← Int.dvd_iff_emod_eq_zero]
  by_cases h : P % Q = 0
  · rw [if_pos h, if_pos (k.2 h)]
  · rw [if_neg h, if_neg (fun z => h (k.1 z))]
theorem NumRounds : ashlarlaw01_NumRounds.Pure := by
  intro a0 a1 h0 h1
  have A0 := in64_wf h0
  have A1 := in64_wf h1
  have hs : ashlarlaw01_shown.f = some true := rfl
  have e1 : num_Make.f a0 a1 = some (mk a0 a1) := if_pos ⟨A0, A1⟩
  unfold ashlarlaw01_NumRounds.f
  rw [hs, e1]
  simp only [Option.bind_some]
  rcases mk_cases a0 a1 with ⟨h, h'⟩ | ⟨P, Q, hm, hq, -, -, hP, hQ, low, hv⟩
  · rw [h']; rfl
  · rw [hm]
    simp only [if_true]
    obtain ⟨pos, co⟩ := id low
    have hF : In64 (P / Q) := ediv_in hP pos
    have hfl : num_Rat_Floor.f P Q = some (P / Q) := floor_is hP pos
    have hce : num_Rat_Ceil.f P Q = some (if P % Q = 0 then P / Q else wrap64 (P / Q + 1)) := ceil_is hP pos
    have wh := low.whole
    have dm := Int.mul_ediv_add_emod P Q
    have m0 := Int.emod_nonneg P (show Q ≠ 0 by omega)
    have m1 := Int.emod_lt_of_pos P pos
    rw [hfl]
    simp only [Option.bind_some]
    rw [hce]
    simp only [Option.bind_some, num_Whole.f]
    by_cases h1 : Q = 1
    · have hz := wh.2 h1
      subst h1
      simp only [hz, if_true, Int.ediv_one] at *
      have c : num_Rat_Cmp.f P 1 P 1 = some 0 := by
        unfold num_Rat_Cmp.f
        rw [if_pos ⟨hP, by decide, hP, by decide⟩]
        simp [cmpI]
      rw [c]
      simp
    · have hz : ¬ P % Q = 0 := fun h => h1 (wh.1 h)
      rw [if_neg hz]
      have q2 : 2 ≤ Q := by omega
      have hC : In64 (P / Q + 1) := by
        obtain ⟨a, b⟩ := hP
        obtain ⟨c, d⟩ := hF
        refine ⟨by omega, ?_⟩
        by_cases k : P / Q < 9223372036854775807
        · omega
        · have : 2 * (P / Q) ≤ Q * (P / Q) := Int.mul_le_mul_of_nonneg_right q2 (by omega)
          omega
      rw [wrap_in hC]
      have c1 : num_Rat_Cmp.f (P / Q) 1 P Q = some (-1) := by
        unfold num_Rat_Cmp.f
        rw [if_pos ⟨hF, by decide, hP, hQ⟩, cmpI, if_pos]
        have : P / Q * Q = Q * (P / Q) := Int.mul_comm ..
        omega
      have c2 : num_Rat_Cmp.f (P / Q + 1) 1 P Q = some 1 := by
        unfold num_Rat_Cmp.f
        have : (P / Q + 1) * Q = Q * (P / Q) + Q := by grind
        rw [if_pos ⟨hC, by decide, hP, hQ⟩, cmpI, if_neg (by omega), if_neg (by omega)]
      rw [c1]
      simp only [Option.bind_some]
      rw [c2]
      have ne : ¬ P / Q = P / Q + 1 := by omega
      have b1 : (Q == 1) = false := by simpa using h1
      have b2 : (P / Q == P / Q + 1) = false := by simpa using ne
      simp [h1, ne, b1, b2]

end Go.Proofs.Ytnggikhpnophgaa.Pure
