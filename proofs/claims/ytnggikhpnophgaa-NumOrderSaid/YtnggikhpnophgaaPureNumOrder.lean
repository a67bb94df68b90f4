/- The plain law of NumOrder. -/
import Derived.Test.YtnggikhpnophgaaPNumOrderx1
import Derived.Test.YtnggikhpnophgaaPNumOrderx2
import Derived.Test.YtnggikhpnophgaaPNumOrderx3
import Derived.Test.YtnggikhpnophgaaNumW
import Derived.Test.YtnggikhpnophgaaNumT
namespace Go.Proofs.Ytnggikhpnophgaa.Pure
open Go.RowKit Go.Proofs.Ytnggikhpnophgaa.PNumOrder Go.Proofs.YtnggikhpnophgaaW.PrintWords Go.Proofs.YtnggikhpnophgaaW.PrintLast Go.Proofs.Ytnggikhpnophgaa.Given Go.Proofs.Ytnggikhpnophgaa.Num
set_option linter.unusedVariables false
set_option linter.unusedSimpArgs false

theorem cmpI_eq {m n x y : Int} (hm : 0 < m) (hn : 0 < n) (h : x * m = y * n) : cmpI x = cmpI y := by
  have a : x < 0 ↔ y < 0 := by
    constructor
    · intro k
      have := Int.mul_neg_of_neg_of_pos k hm
      by_cases z : y < 0
      · exact z
      · have := Int.mul_nonneg (show 0 ≤ y by omega) (Int.le_of_lt hn); omega
    · intro k
      have := Int.mul_neg_of_neg_of_pos k hn
      by_cases z : x < 0
      · exact z
      · have := Int.mul_nonneg (show 0 ≤ x by omega) (Int.le_of_lt hm); omega
  have b : x = 0 ↔ y = 0 := by
    constructor
    · intro k
      rw [k, Int.zero_mul] at h
      rcases Int.mul_eq_zero.1 h.symm with z | z <;> omega
    · intro k
      rw [k, Int.zero_mul] at h
      rcases Int.mul_eq_zero.1 h with z | z <;> omega
  unfold cmpI
  simp only [a, b]

theorem cmpI_neg (x : Int) : cmpI x = wrap64 (-(cmpI (-x))) := by
  unfold cmpI
  by_cases h : x < 0
  · rw [if_pos h, if_neg (by omega), if_neg (by omega)]; unfold wrap64; omega
  · by_cases h2 : x = 0
    · rw [if_neg h, if_pos h2, if_neg (by omega), if_pos (by omega)]; unfold wrap64; omega
    · rw [if_neg h, if_neg h2, if_pos (by omega)]; unfold wrap64; omega

theorem cmpI_le {x : Int} : cmpI x ≤ 0 ↔ x ≤ 0 := by
  unfold cmpI
  by_cases h : x < 0
  · rw [if_pos h]; omega
  · by_cases h2 : x = 0
    · subst h2; simp
    · rw [if_neg h, if_neg h2]; omega

theorem cmpI_zero {x : Int} : cmpI x = 0 ↔ x = 0 := by
  unfold cmpI
  by_cases h : x < 0
  · rw [if_pos h]; omega
  · by_cases h2 : x = 0
    · subst h2; simp
    · rw [if_neg h, if_neg h2]; omega

theorem cmp_is {p q r s : Int} (hp : In64 p) (hq : In64 q) (hr : In64 r) (hs : In64 s) : num_Rat_Cmp.f p q r s = some (cmpI (p * s - r * q)) := if_pos ⟨hp, hq, hr, hs⟩
theorem plus_is {p q r s : Int} (hp : In64 p) (hq : In64 q) (hr : In64 r) (hs : In64 s) (h1 : Low p q) (h2 : Low r s) : num_Rat_Plus.f p q r s = some (mk (p * s + r * q) (q * s)) := by
  unfold num_Rat_Plus.f
  rw [if_pos ⟨hp, hq, hr, hs⟩, sumR_mk false h1 h2]
  rfl
theorem minus_is {p q r s : Int} (hp : In64 p) (hq : In64 q) (hr : In64 r) (hs : In64 s) (h1 : Low p q) (h2 : Low r s) : num_Rat_Minus.f p q r s = some (mk (p * s - r * q) (q * s)) := by
  unfold num_Rat_Minus.f
  rw [if_pos ⟨hp, hq, hr, hs⟩, sumR_mk true h1 h2]
  rfl

theorem j2_is {P Q R S : Int} (hP : In64 P) (hQ : In64 Q) (hR : In64 R) (hS : In64 S) (l1 : Low P Q) (l2 : Low R S) (k : Nat) :
    ashlarlaw01_NumOrder.j2 (k + 1) true (cmpI (P * S - R * Q)) false P Q R S = some true := by
  have e := minus_is hP hQ hR hS l1 l2
  simp only [ashlarlaw01_NumOrder.j2, Bool.false_eq_true, if_false, if_true]
  rw [e, Option.bind_some]
  rcases mk_cases (P * S - R * Q) (Q * S) with ⟨h, h'⟩ | ⟨A, B, hm, -, -, -, hA, hB, l3, hv⟩
  · rw [h']; rfl
  · rw [hm]
    simp only [if_true, num_Whole.f]
    rw [Option.bind_some, cmp_is hA hB (by decide) (by decide), Option.bind_some]
    have : cmpI (A * 1 - 0 * B) = cmpI (P * S - R * Q) := cmpI_eq (m := Q * S) (n := B) (Int.mul_pos l1.pos l2.pos) l3.pos (by grind)
    rw [this]
    simp

theorem j1_is {P Q R S T U : Int} (hP : In64 P) (hQ : In64 Q) (hR : In64 R) (hS : In64 S) (hT : In64 T) (hU : In64 U) (l1 : Low P Q) (l2 : Low R S) (l3 : Low T U) (k : Nat) :
    ashlarlaw01_NumOrder.j1 (k + 2) true (cmpI (P * S - R * Q)) false P Q R S T U = some true := by
  have e1 := plus_is hP hQ hT hU l1 l3
  have e2 := plus_is hR hS hT hU l2 l3
  have last := j2_is hP hQ hR hS l1 l2 k
  simp only [ashlarlaw01_NumOrder.j1, Bool.false_eq_true, if_false]
  rw [e1, Option.bind_some, e2, Option.bind_some]
  rcases mk_cases (P * U + T * Q) (Q * U) with ⟨h, h'⟩ | ⟨A, B, hm, -, -, -, hA, hB, l4, hv⟩
  · rw [h']; exact last
  · rw [hm]
    simp only [if_true]
    rcases mk_cases (R * U + T * S) (S * U) with ⟨h, h'⟩ | ⟨C, D, hm', -, -, -, hC, hD, l5, hv'⟩
    · rw [h']; exact last
    · rw [hm']
      simp only [if_true]
      rw [cmp_is hA hB hC hD, Option.bind_some]
      have : cmpI (A * D - C * B) = cmpI (P * S - R * Q) := by
        refine cmpI_eq (m := Q * U * (S * U)) (n := B * D * (U * U)) (Int.mul_pos (Int.mul_pos l1.pos l3.pos) (Int.mul_pos l2.pos l3.pos)) (Int.mul_pos (Int.mul_pos l4.pos l5.pos) (Int.mul_pos l3.pos l3.pos)) ?_
        have a : A * D * (Q * U * (S * U)) = (P * U + T * Q) * B * D * (S * U) := by rw [← hv]; grind
        have b : C * B * (Q * U * (S * U)) = (R * U + T * S) * D * B * (Q * U) := by rw [← hv']; grind
        rw [Int.sub_mul, a, b]; grind
      rw [this, bne_self_eq_false]
      exact last

theorem j0_is {P Q R S T U : Int} (hP : In64 P) (hQ : In64 Q) (hR : In64 R) (hS : In64 S) (hT : In64 T) (hU : In64 U) (l1 : Low P Q) (l2 : Low R S) (l3 : Low T U) (k : Nat) :
    ashlarlaw01_NumOrder.j0 (k + 3) true false P Q R S T U = some true := by
  have last := j1_is hP hQ hR hS hT hU l1 l2 l3 k
  simp only [ashlarlaw01_NumOrder.j0, Bool.false_eq_true, if_false]
  rw [cmp_is hP hQ hR hS, Option.bind_some, cmp_is hR hS hP hQ, Option.bind_some]
  have e1 : cmpI (P * S - R * Q) = wrap64 (-(cmpI (R * Q - P * S))) := by
    rw [cmpI_neg, show -(P * S - R * Q) = R * Q - P * S by omega]
  rw [if_pos e1]
  have e2 : ((cmpI (P * S - R * Q) == 0) != (P == R && (Q == S))) = false := by
    by_cases z : P * S - R * Q = 0
    · have := Low.uniq l1 l2 (by omega)
      obtain ⟨rfl, rfl⟩ := this
      rw [cmpI_zero.2 z]
      simp
    · have z1 : (cmpI (P * S - R * Q) == 0) = false := beq_eq_false_iff_ne.2 (fun h => z (cmpI_zero.1 h))
      have z2 : (P == R && (Q == S)) = false := by
        rw [Bool.eq_false_iff]
        intro h
        rw [Bool.and_eq_true, beq_iff_eq, beq_iff_eq] at h
        obtain ⟨rfl, rfl⟩ := h
        omega
      rw [z1, z2]; rfl
  rw [if_neg (by rw [e2]; exact Bool.false_ne_true)]
  split
  · rename_i c1
    rw [cmp_is hR hS hT hU, Option.bind_some]
    split
    · rename_i c2
      rw [cmp_is hP hQ hT hU, Option.bind_some]
      have d1 := cmpI_le.1 c1
      have d2 := cmpI_le.1 c2
      have d3 : P * U - T * Q ≤ 0 := by
        have s0 := l2.pos
        have a := Int.mul_le_mul_of_nonneg_right (show P * S ≤ R * Q by omega) (Int.le_of_lt l3.pos)
        have b := Int.mul_le_mul_of_nonneg_right (show R * U ≤ T * S by omega) (Int.le_of_lt l1.pos)
        have c : S * (P * U) ≤ S * (T * Q) := by
          rw [show S * (P * U) = P * S * U by grind, show S * (T * Q) = T * S * Q by grind]
          rw [show R * Q * U = R * U * Q by grind] at a
          omega
        have := Int.le_of_mul_le_mul_left c s0
        omega
      rw [decide_eq_false (by have := cmpI_le.2 d3; omega)]
      exact last
    · exact last
  · exact last

theorem NumOrder : ashlarlaw01_NumOrder.Pure := by
  intro a0 a1 a2 a3 a4 a5 h0 h1 h2 h3 h4 h5
  have A0 := in64_wf h0
  have A1 := in64_wf h1
  have A2 := in64_wf h2
  have A3 := in64_wf h3
  have A4 := in64_wf h4
  have A5 := in64_wf h5
  refine ⟨3, ?_⟩
  have hs : ashlarlaw01_shown.f = some true := rfl
  have e1 : num_Make.f a0 a1 = some (mk a0 a1) := if_pos ⟨A0, A1⟩
  have e2 : num_Make.f a2 a3 = some (mk a2 a3) := if_pos ⟨A2, A3⟩
  have e3 : num_Make.f a4 a5 = some (mk a4 a5) := if_pos ⟨A4, A5⟩
  have no : ∀ P Q R S T U, ashlarlaw01_NumOrder.j0 3 true true P Q R S T U = some true := by
    intros; simp [ashlarlaw01_NumOrder.j0]
  unfold ashlarlaw01_NumOrder.f ashlarlaw01_rats.f
  rw [hs, e1, e2, e3]
  simp only [Option.bind_some]
  rcases mk_cases a0 a1 with ⟨h, h'⟩ | ⟨P, Q, hm, -, -, -, hP, hQ, l1, -⟩
  · rw [h']; simp only [Bool.false_eq_true, if_false, Option.bind_some]; exact no ..
  · rw [hm]
    simp only [if_true, Option.bind_some]
    rcases mk_cases a2 a3 with ⟨h, h'⟩ | ⟨R, S, hm', -, -, -, hR, hS, l2, -⟩
    · rw [h']; simp only [Bool.false_eq_true, if_false]; exact no ..
    · rw [hm']
      simp only [if_true]
      rcases mk_cases a4 a5 with ⟨h, h'⟩ | ⟨T, U, hm'', -, -, -, hT, hU, l3, -⟩
      · rw [h']; exact no ..
      · rw [hm'']; exact j0_is hP hQ hR hS hT hU l1 l2 l3 0

end Go.Proofs.Ytnggikhpnophgaa.Pure
