/- Plain law: what Times answers for two rats in lowest terms is the right rat of the product. -/
import Derived.Test.YtdkbnbebioflaaaNumW
import Derived.Test.YtdkbnbebioflaaaNumGiven
namespace Go.Proofs.Ytdkbnbebioflaaa.Num
open Go.RowKit Go.Proofs.Ytdkbnbebioflaaa.Given
set_option linter.unusedVariables false
set_option linter.unusedSimpArgs false

theorem sz_ediv {a g : Int} (hg : 0 < g) (hd : g ∣ a) : sz a / g = sz (a / g) := by
  obtain ⟨c, rfl⟩ := hd
  rw [Int.mul_ediv_cancel_left _ (by omega), sz_abs, sz_abs, Int.natAbs_mul]
  have : ((g.natAbs * c.natAbs : Nat) : Int) = g * (c.natAbs : Int) := by
    rw [Int.natCast_mul]; congr 1; omega
  rw [this, Int.mul_ediv_cancel_left _ (by omega)]

theorem sg_mul (a b : Int) : (if sg a b = true then -(sz a * sz b) else sz a * sz b) = a * b := by
  unfold sg sz
  by_cases h1 : a < 0 <;> by_cases h2 : b < 0 <;> simp [h1, h2] <;> grind

theorem times_low {p q r s : Int} (h1 : Low p q) (h2 : Low r s) :
    lowP (p * r) (q * s) = timesX p q r s ∧ lowQ (p * r) (q * s) = q / (Int.gcd r q : Int) * (s / (Int.gcd p s : Int)) := by
  obtain ⟨q0, c1⟩ := h1
  obtain ⟨s0, c2⟩ := h2
  have g0 : 0 < (Int.gcd p s : Int) := gcd_pos (p := p) (q := s) (by omega)
  have k0 : 0 < (Int.gcd r q : Int) := gcd_pos (p := r) (q := q) (by omega)
  obtain ⟨p', hp⟩ := Int.gcd_dvd_left p s
  obtain ⟨s', hs⟩ := Int.gcd_dvd_right p s
  obtain ⟨r', hr⟩ := Int.gcd_dvd_left r q
  obtain ⟨q', hq⟩ := Int.gcd_dvd_right r q
  have dp : p / (Int.gcd p s : Int) = p' := Int.ediv_eq_of_eq_mul_right (by omega) hp
  have ds : s / (Int.gcd p s : Int) = s' := Int.ediv_eq_of_eq_mul_right (by omega) hs
  have dr : r / (Int.gcd r q : Int) = r' := Int.ediv_eq_of_eq_mul_right (by omega) hr
  have dq : q / (Int.gcd r q : Int) = q' := Int.ediv_eq_of_eq_mul_right (by omega) hq
  have cps : Int.gcd p' s' = 1 := by
    have := Int.gcd_ediv_gcd_ediv_gcd_of_ne_zero_right (n := p) (m := s) (by omega)
    rwa [dp, ds] at this
  have crq : Int.gcd r' q' = 1 := by
    have := Int.gcd_ediv_gcd_ediv_gcd_of_ne_zero_right (n := r) (m := q) (by omega)
    rwa [dr, dq] at this
  have eX : timesX p q r s = p' * r' := by
    unfold timesX
    rw [sz_ediv g0 (Int.gcd_dvd_left p s), sz_ediv k0 (Int.gcd_dvd_left r q), dp, dr]
    have : sg p r = sg p' r' ∨ sz p' * sz r' = 0 := by
      have a : p < 0 ↔ p' < 0 := by
        constructor
        · intro h
          by_cases z : p' < 0
          · exact z
          · have := Int.mul_nonneg (Int.le_of_lt g0) (show 0 ≤ p' by omega); omega
        · intro h
          have := Int.mul_neg_of_pos_of_neg g0 h; omega
      have b : r < 0 ↔ r' < 0 := by
        constructor
        · intro h
          by_cases z : r' < 0
          · exact z
          · have := Int.mul_nonneg (Int.le_of_lt k0) (show 0 ≤ r' by omega); omega
        · intro h
          have := Int.mul_neg_of_pos_of_neg k0 h; omega
      left; unfold sg; simp only [a, b]
    rcases this with e | e
    · rw [e]; exact sg_mul p' r'
    · have := sg_mul p' r'
      rw [e] at this ⊢
      split <;> (split at this <;> omega)
  rw [eX, dq, ds]
  have sub : ∀ {a b c d : Int}, Int.gcd a b = 1 → c ∣ a → d ∣ b → Int.gcd c d = 1 := fun h hc hd => co_of fun e e1 e2 => co_dvd h (Int.dvd_trans e1 hc) (Int.dvd_trans e2 hd)
  have pd : p' ∣ p := ⟨_, by rw [Int.mul_comm]; exact hp⟩
  have qd : q' ∣ q := ⟨_, by rw [Int.mul_comm]; exact hq⟩
  have rd : r' ∣ r := ⟨_, by rw [Int.mul_comm]; exact hr⟩
  have sd : s' ∣ s := ⟨_, by rw [Int.mul_comm]; exact hs⟩
  have x1 : Int.gcd q' (p' * r') = 1 := co_mul (by rw [Int.gcd_comm]; exact sub c1 pd qd) (by rw [Int.gcd_comm]; exact crq)
  have x2 : Int.gcd s' (p' * r') = 1 := co_mul (by rw [Int.gcd_comm]; exact cps) (by rw [Int.gcd_comm]; exact sub c2 rd sd)
  have qp : 0 < q' := by
    rw [hq] at q0
    exact Int.pos_of_mul_pos_right q0 (by omega)
  have sp : 0 < s' := by
    rw [hs] at s0
    exact Int.pos_of_mul_pos_right s0 (by omega)
  generalize (Int.gcd p s : Int) = g at *
  generalize (Int.gcd r q : Int) = k at *
  refine low_eq ?_ ⟨Int.mul_pos qp sp, co_mul (by rw [Int.gcd_comm]; exact x1) (by rw [Int.gcd_comm]; exact x2)⟩ ?_
  · have := Int.mul_pos q0 s0; omega
  · have e1 : p * s' = p' * s := by rw [hp, hs]; grind
    have e2 : r * q' = r' * q := by rw [hr, hq]; grind
    have : p * r * (q' * s') = (p * s') * (r * q') := by grind
    rw [this, e1, e2]; grind

/-- Times of two in lowest terms answers the right rat. -/
theorem timesR_mk {p q r s : Int} (h1 : Low p q) (h2 : Low r s) : timesR p q r s = mk (p * r) (q * s) := by
  unfold timesR
  rw [if_pos ⟨h1.pos, h2.pos⟩]
  split
  · rfl
  · have hl := times_low h1 h2
    have hm := Int.mul_pos h1.pos h2.pos
    unfold timesL both mk
    rw [if_neg (show ¬ q * s = 0 by omega), hl.1, hl.2]
end Go.Proofs.Ytdkbnbebioflaaa.Num
