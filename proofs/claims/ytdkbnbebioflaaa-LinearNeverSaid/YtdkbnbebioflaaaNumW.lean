/- Plain law: what Plus and Minus answer for two rats in lowest terms is the right rat of the sum. -/
import Derived.Test.YtdkbnbebioflaaaNumT
import Derived.Test.YtdkbnbebioflaaaNumGivenB
namespace Go.Proofs.Ytdkbnbebioflaaa.Num
open Go.RowKit Go.Proofs.Ytdkbnbebioflaaa.Given
set_option linter.unusedVariables false
set_option linter.unusedSimpArgs false

theorem co_of {a b : Int} (h : ∀ d : Int, d ∣ a → d ∣ b → d ∣ 1) : Int.gcd a b = 1 := by
  have := h _ (Int.gcd_dvd_left a b) (Int.gcd_dvd_right a b)
  have := Int.le_of_dvd (by decide) this
  by_cases z : Int.gcd a b = 0
  · have e := Int.gcd_eq_zero_iff.1 z
    have := h 0 (by rw [e.1]; exact Int.dvd_refl 0) (by rw [e.2]; exact Int.dvd_refl 0)
    have := Int.le_of_dvd (by decide) (h 2 (by rw [e.1]; exact Int.dvd_zero 2) (by rw [e.2]; exact Int.dvd_zero 2))
    omega
  · omega
theorem co_dvd {a b d : Int} (h : Int.gcd a b = 1) (h1 : d ∣ a) (h2 : d ∣ b) : d ∣ 1 := by
  have := Int.dvd_coe_gcd h1 h2
  rw [h] at this; exact this
theorem co_mul {a b c : Int} (h1 : Int.gcd a b = 1) (h2 : Int.gcd a c = 1) : Int.gcd a (b * c) = 1 := by
  refine co_of fun d da dbc => ?_
  have : Int.gcd d b = 1 := co_of fun e e1 e2 => co_dvd h1 (Int.dvd_trans e1 da) e2
  exact co_dvd h2 da (dvd_of_co this dbc)

theorem quo0_mul {T' G : Int} (hG : 0 < G) : quo0 (G * T') G = T' := by
  unfold quo0
  split
  · rw [show -(G * T') = G * -T' by grind, Int.mul_ediv_cancel_left _ (by omega)]; omega
  · rw [Int.mul_ediv_cancel_left _ (by omega)]

theorem gcd_mod (T : Int) (g : Nat) : Int.gcd (sz T % (g : Int)) g = Int.gcd T g := by
  rw [sz_abs, ← Int.natCast_emod]
  simp only [Int.gcd, Int.natAbs_natCast]
  rw [← Nat.gcd_rec, Nat.gcd_comm]

theorem sum_low {p q r s : Int} (t : Bool) (h1 : Low p q) (h2 : Low r s) :
    lowP (top p q r s t) (q * s) = quo0 (sumT p q r s t) (sumG p q r s t) ∧ lowQ (top p q r s t) (q * s) = q / (Int.gcd q s : Int) * (s / sumG p q r s t) := by
  obtain ⟨q0, c1⟩ := h1
  obtain ⟨s0, c2⟩ := h2
  have g0 : 0 < (Int.gcd q s : Int) := gcd_pos (p := q) (q := s) (by omega)
  have cqs : Int.gcd (q / (Int.gcd q s : Int)) (s / (Int.gcd q s : Int)) = 1 := Int.gcd_ediv_gcd_ediv_gcd_of_ne_zero_right (n := q) (by omega)
  obtain ⟨q', hq⟩ := Int.gcd_dvd_left q s
  obtain ⟨s', hs⟩ := Int.gcd_dvd_right q s
  have eT : sumT p q r s t = (if t = true then p * s' - r * q' else p * s' + r * q') := by
    unfold sumT
    rw [show q / (Int.gcd q s : Int) = q' by rw [Int.ediv_eq_of_eq_mul_right (by omega) hq], show s / (Int.gcd q s : Int) = s' by rw [Int.ediv_eq_of_eq_mul_right (by omega) hs]]
    split <;> omega
  have dq : q / (Int.gcd q s : Int) = q' := Int.ediv_eq_of_eq_mul_right (by omega) hq
  have ds : s / (Int.gcd q s : Int) = s' := Int.ediv_eq_of_eq_mul_right (by omega) hs
  rw [dq, ds] at cqs
  have eG : sumG p q r s t = (Int.gcd (sumT p q r s t) (Int.gcd q s) : Int) := by
    unfold sumG
    rw [gcd_mod]
  have etop : top p q r s t = (Int.gcd q s : Int) * sumT p q r s t := by
    rw [eT]; unfold top
    generalize (Int.gcd q s : Int) = g at *
    subst hq hs
    split <;> grind
  have cT : Int.gcd (sumT p q r s t / (Int.gcd (sumT p q r s t) (Int.gcd q s) : Int)) ((Int.gcd q s : Int) / (Int.gcd (sumT p q r s t) (Int.gcd q s) : Int)) = 1 := Int.gcd_ediv_gcd_ediv_gcd_of_ne_zero_right (n := sumT p q r s t) (by omega)
  have G0 : 0 < (Int.gcd (sumT p q r s t) (Int.gcd q s) : Int) := gcd_pos (by omega)
  rw [eG, etop]
  obtain ⟨T', hT⟩ := Int.gcd_dvd_left (sumT p q r s t) (Int.gcd q s)
  obtain ⟨g', hg⟩ := Int.gcd_dvd_right (sumT p q r s t) (Int.gcd q s)
  rw [show sumT p q r s t / (Int.gcd (sumT p q r s t) (Int.gcd q s) : Int) = T' from Int.ediv_eq_of_eq_mul_right (by omega) hT, show (Int.gcd q s : Int) / (Int.gcd (sumT p q r s t) (Int.gcd q s) : Int) = g' from Int.ediv_eq_of_eq_mul_right (by omega) hg] at cT
  rw [dq]
  clear dq ds etop eG
  generalize sumT p q r s t = T at *
  generalize hgg : (Int.gcd q s : Int) = g at *
  generalize (Int.gcd T g : Int) = G at *
  have cTq : Int.gcd T' q' = 1 := by
    refine co_of fun d a b => ?_
    have dT : d ∣ T := by rw [hT]; exact Int.dvd_mul_of_dvd_right a
    have ds' : Int.gcd d s' = 1 := co_of fun e e1 e2 => co_dvd cqs (Int.dvd_trans e1 b) e2
    have dps : d ∣ s' * p := by
      rw [eT] at dT
      have x : d ∣ r * q' := Int.dvd_mul_of_dvd_right b
      split at dT
      · have := Int.dvd_add dT x
        rwa [show p * s' - r * q' + r * q' = s' * p by grind] at this
      · have := Int.dvd_sub dT x
        rwa [show p * s' + r * q' - r * q' = s' * p by grind] at this
    exact co_dvd c1 (dvd_of_co ds' dps) (by rw [hq]; exact Int.dvd_mul_of_dvd_right b)
  have cTs : Int.gcd T' s' = 1 := by
    refine co_of fun d a b => ?_
    have dT : d ∣ T := by rw [hT]; exact Int.dvd_mul_of_dvd_right a
    have ds' : Int.gcd d q' = 1 := co_of fun e e1 e2 => co_dvd cqs e2 (Int.dvd_trans e1 b)
    have dps : d ∣ q' * r := by
      rw [eT] at dT
      have x : d ∣ p * s' := Int.dvd_mul_of_dvd_right b
      split at dT
      · have := Int.dvd_sub x dT
        rwa [show p * s' - (p * s' - r * q') = q' * r by grind] at this
      · have := Int.dvd_sub dT x
        rwa [show p * s' + r * q' - p * s' = q' * r by grind] at this
    exact co_dvd c2 (dvd_of_co ds' dps) (by rw [hs]; exact Int.dvd_mul_of_dvd_right b)
  have qp : 0 < q' := by
    rw [hq] at q0
    exact Int.pos_of_mul_pos_right q0 (by omega)
  have sp : 0 < s' := by
    rw [hs] at s0
    exact Int.pos_of_mul_pos_right s0 (by omega)
  have gp : 0 < g' := by
    rw [hg] at g0
    exact Int.pos_of_mul_pos_right g0 (by omega)
  have es : s / G = g' * s' := by
    rw [hs, hg, Int.mul_assoc, Int.mul_ediv_cancel_left _ (by omega)]
  have eQ : quo0 T G = T' := by rw [hT]; exact quo0_mul G0
  rw [es, eQ]
  refine low_eq ?_ ⟨?_, co_mul cTq (co_mul cT cTs)⟩ ?_
  · have := Int.mul_pos q0 s0; omega
  · exact Int.mul_pos qp (Int.mul_pos gp sp)
  · rw [hT, hs, hg, hq, hg]; grind

/-- Plus and Minus of two in lowest terms answer the right rat. -/
theorem sumR_mk {p q r s : Int} (t : Bool) (h1 : Low p q) (h2 : Low r s) : sumR p q r s t = mk (top p q r s t) (q * s) := by
  unfold sumR
  rw [if_pos ⟨h1.pos, h2.pos⟩]
  split
  · rfl
  · have hl := sum_low t h1 h2
    have hm := Int.mul_pos h1.pos h2.pos
    unfold sumL both mk
    rw [if_neg (show ¬ q * s = 0 by omega), hl.1, hl.2]
end Go.Proofs.Ytdkbnbebioflaaa.Num
