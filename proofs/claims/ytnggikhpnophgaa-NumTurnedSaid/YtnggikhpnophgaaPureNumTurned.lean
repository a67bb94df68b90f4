/- The plain law of NumTurned. -/
import Derived.Test.YtnggikhpnophgaaPNumTurnedx1
import Derived.Test.YtnggikhpnophgaaPNumTurnedx2
import Derived.Test.YtnggikhpnophgaaNumW
import Derived.Test.YtnggikhpnophgaaNumT
namespace Go.Proofs.Ytnggikhpnophgaa.Pure
open Go.RowKit Go.Proofs.Ytnggikhpnophgaa.PNumTurned Go.Proofs.YtnggikhpnophgaaW.PrintWords Go.Proofs.YtnggikhpnophgaaW.PrintLast Go.Proofs.Ytnggikhpnophgaa.Given Go.Proofs.Ytnggikhpnophgaa.Num
set_option linter.unusedVariables false
set_option linter.unusedSimpArgs false

theorem floor_is {P Q : Int} (hP : In64 P) (hQ : 0 < Q) : num_Rat_Floor.f P Q = some (P / Q) := by
  have hF := ediv_in hP hQ
  have hF' := hF
  obtain ⟨c, d⟩ := hF
  unfold num_Rat_Floor.f num_Rat_right.f
  simp only [Option.bind_some, gt_iff_lt, hQ, decide_true, if_true]
  rw [if_neg (by omega)]
  rcases tdiv_floor (P := P) hQ with ⟨h1, h2, h3⟩ | ⟨h1, h2⟩
  · rw [if_pos h1]
    congr 1
    rw [show wrap64 (wrap64 (P.tdiv Q) - 1) = wrap64 (P.tdiv Q - 1) by unfold wrap64; omega, h2, wrap_in hF']
  · rw [if_neg h1, h2, wrap_in hF']
theorem ceil_is {P Q : Int} (hP : In64 P) (hQ : 0 < Q) : num_Rat_Ceil.f P Q = some (if P % Q = 0 then P / Q else wrap64 (P / Q + 1)) := by
  unfold num_Rat_Ceil.f
  rw [floor_is hP hQ]
  unfold num_Rat_right.f
  simp only [Option.bind_some, gt_iff_lt, hQ, decide_true, if_true]
  rw [if_neg (by omega)]
  have k : P.tmod Q = 0 ↔ P % Q = 0 := by
    rw [← Int.dvd_iff_tmod_eq_zero, ← Int.dvd_iff_emod_eq_zero]
  by_cases h : P % Q = 0
  · rw [if_pos h, if_pos (k.2 h)]
  · rw [if_neg h, if_neg (fun z => h (k.1 z))]
theorem ceil_is' {P Q : Int} (hP : In64 P) (low : Low P Q) : num_Rat_Ceil.f P Q = some (ceil P Q) := by
  have h := ceil_in hP low
  rw [ceil_is hP low.pos]
  unfold ceil at h ⊢
  split
  · rfl
  · rename_i hz
    rw [if_neg hz] at h
    rw [wrap_in h]
theorem NumTurned : ashlarlaw01_NumTurned.Pure := by
  intro a0 a1 a2 h0 h1 h2
  have A0 := in64_wf h0
  have A1 := in64_wf h1
  have A2 := in64_wf h2
  refine ⟨1, ?_⟩
  have hs : ashlarlaw01_shown.f = some true := rfl
  have e1 : num_Make.f a0 a1 = some (mk a0 a1) := if_pos ⟨A0, A1⟩
  unfold ashlarlaw01_NumTurned.f
  rw [hs, e1]
  simp only [Option.bind_some]
  rcases mk_cases a0 a1 with ⟨h, h'⟩ | ⟨P, Q, hm, hq, -, -, hP, hQ, low, hv⟩
  · rw [h']; rfl
  · rw [hm]
    simp only [if_true, num_Whole.f, Option.bind_some]
    have pos := low.pos
    have hfl : num_Rat_Floor.f P Q = some (P / Q) := floor_is hP pos
    have hce : num_Rat_Ceil.f P Q = some (ceil P Q) := ceil_is' hP low
    have last : ashlarlaw01_NumTurned.j0 1 a2 true P Q = some true := by
      unfold ashlarlaw01_NumTurned.j0
      have c : num_Rat_Cmp.f a2 1 P Q = some (cmpI (a2 * Q - P * 1)) := if_pos ⟨A2, by decide, hP, hQ⟩
      simp only [num_Whole.f, Option.bind_some]
      rw [c]
      simp only [Option.bind_some, if_true]
      rw [hfl]
      simp only [Option.bind_some]
      rw [hce]
      simp only [Option.bind_some, Int.mul_one]
      have k1 : (decide (cmpI (a2 * Q - P) ≤ 0) == decide (a2 ≤ P / Q)) = true := by
        have : a2 ≤ P / Q ↔ a2 * Q ≤ P := Int.le_ediv_iff_mul_le pos
        unfold cmpI
        split
        · simp; omega
        · split
          · simp; omega
          · simp; omega
      have k2 : (decide (cmpI (a2 * Q - P) ≥ 0) == decide (a2 ≥ ceil P Q)) = true := by
        have : ceil P Q ≤ a2 ↔ P ≤ a2 * Q := ceil_le pos
        unfold cmpI
        split
        · simp; omega
        · split
          · simp; omega
          · simp; omega
      rw [k1, k2]
      rfl
    have em : num_Rat_Minus.f 0 1 P Q = some (mk (-P) Q) := by
      unfold num_Rat_Minus.f
      rw [if_pos ⟨by decide, by decide, hP, hQ⟩, sumR_mk true ⟨by decide, by decide⟩ low]
      unfold top
      simp
    rw [em]
    simp only [Option.bind_some]
    rcases mk_cases (-P) Q with ⟨h, h'⟩ | ⟨R, T, hm2, -, -, -, hR, hT, low2, hv2⟩
    · rw [h']; simp only [Bool.false_eq_true, if_false]; exact last
    · rw [hm2]
      have ⟨eR, eT⟩ : R = -P ∧ T = Q := Low.uniq low2 ⟨pos, by rw [Int.neg_gcd]; exact low.co⟩ (by rw [hv2])
      subst eR eT
      simp only [if_true]
      rw [hce]
      simp only [Option.bind_some]
      rw [show num_Rat_Floor.f (-P) T = some (-P / T) from floor_is hR pos]
      simp only [Option.bind_some]
      have hc : ceil P T = - (-P / T) := by
        have := ceil_neg (P := P) pos
        omega
      rw [show num_Add.f (ceil P T) (-P / T) = some (0, true) by
        unfold num_Add.f
        rw [if_pos ⟨ceil_in hP low, ediv_in hR pos⟩, hc, Int.add_left_neg]; rfl]
      simp only [Option.bind_some, if_true]
      rw [if_pos (by rw [wrap_in hR])]
      exact last

end Go.Proofs.Ytnggikhpnophgaa.Pure
