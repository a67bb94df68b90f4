/- Plain law of NumThree: sums and products of three rats are the same whichever pair comes first. -/
import Derived.Test.YtnggikhpnophgaaNumY
namespace Go.Proofs.Ytnggikhpnophgaa.Num
open Go.RowKit Go.Proofs.Ytnggikhpnophgaa.Given
set_option linter.unusedVariables false
set_option linter.unusedSimpArgs false

/-- Equal fractions make the same rat. -/
theorem mk_frac {x y x' y' : Int} (hy : y ≠ 0) (hy' : y' ≠ 0) (e : x * y' = x' * y) : mk x y = mk x' y' := by
  have hv := low_val (p := x) hy
  have := low_eq (p := x') (q := y') hy' (low_low (p := x) hy) (by
    have : lowP x y * y' * y = x' * lowQ x y * y := by
      rw [show lowP x y * y' * y = lowP x y * y * y' by grind, hv, show x * lowQ x y * y' = x * y' * lowQ x y by grind, e]; grind
    exact Int.eq_of_mul_eq_mul_right hy this)
  unfold mk
  rw [if_neg hy, if_neg hy', this.1, this.2]

theorem mk_in (p q : Int) : In64 (mk p q).1 ∧ In64 (mk p q).2.1 := by
  rcases mk_cases p q with ⟨-, h⟩ | ⟨P, Q, h, -, -, -, h1, h2, -⟩
  · rw [h]; exact ⟨by decide, by decide⟩
  · rw [h]; exact ⟨h1, h2⟩
theorem both_in (x y : Int) : In64 (both x y).1 ∧ In64 (both x y).2.1 := by
  unfold both
  split
  · assumption
  · exact ⟨by decide, by decide⟩
theorem sumR_in (p q r s : Int) (t : Bool) : In64 (sumR p q r s t).1 ∧ In64 (sumR p q r s t).2.1 := by
  unfold sumR
  split
  · split
    · exact mk_in ..
    · exact both_in ..
  · exact ⟨by decide, by decide⟩
theorem timesR_in (p q r s : Int) : In64 (timesR p q r s).1 ∧ In64 (timesR p q r s).2.1 := by
  unfold timesR
  split
  · split
    · exact mk_in ..
    · exact both_in ..
  · exact ⟨by decide, by decide⟩

/-- What mk makes, when it makes something. -/
theorem mk_true {p q a b : Int} (h : mk p q = (a, b, true)) : Low a b ∧ a * q = p * b := by
  rcases mk_cases p q with ⟨h', -⟩ | ⟨P, Q, h', -, -, -, -, -, l, e⟩
  · rw [h] at h'; cases h'
  · rw [h] at h'
    have e1 := congrArg Prod.fst h'
    have e2 := congrArg (fun z => z.2.1) h'
    simp only at e1 e2
    subst e1 e2
    exact ⟨l, e⟩

theorem three_sum {P Q R S T U a1 a2 b1 b2 : Int} (l1 : Low P Q) (l2 : Low R S) (l3 : Low T U)
    (ha : sumR P Q R S false = (a1, a2, true)) (hb : sumR R S T U false = (b1, b2, true)) : sumR a1 a2 T U false = sumR P Q b1 b2 false := by
  rw [sumR_mk false l1 l2] at ha
  rw [sumR_mk false l2 l3] at hb
  obtain ⟨la, ea⟩ := mk_true ha
  obtain ⟨lb, eb⟩ := mk_true hb
  rw [sumR_mk false la l3, sumR_mk false l1 lb]
  have m1 := Int.mul_pos la.pos l3.pos
  have m2 := Int.mul_pos l1.pos lb.pos
  refine mk_frac (by omega) (by omega) ?_
  simp only [top, Bool.false_eq_true, if_false] at ea eb ⊢
  have s0 := l2.pos
  have : (a1 * U + T * a2) * (Q * b2) * S = (P * b2 + b1 * Q) * (a2 * U) * S := by
    have x : (a1 * U + T * a2) * (Q * b2) * S = a1 * (Q * S) * U * b2 + T * a2 * Q * b2 * S := by grind
    have y : (P * b2 + b1 * Q) * (a2 * U) * S = P * b2 * a2 * U * S + b1 * (S * U) * Q * a2 := by grind
    rw [x, y, ea, eb]; grind
  exact Int.eq_of_mul_eq_mul_right (by omega) this

theorem three_times {P Q R S T U a1 a2 b1 b2 : Int} (l1 : Low P Q) (l2 : Low R S) (l3 : Low T U)
    (ha : timesR P Q R S = (a1, a2, true)) (hb : timesR R S T U = (b1, b2, true)) : timesR a1 a2 T U = timesR P Q b1 b2 := by
  rw [timesR_mk l1 l2] at ha
  rw [timesR_mk l2 l3] at hb
  obtain ⟨la, ea⟩ := mk_true ha
  obtain ⟨lb, eb⟩ := mk_true hb
  rw [timesR_mk la l3, timesR_mk l1 lb]
  have m1 := Int.mul_pos la.pos l3.pos
  have m2 := Int.mul_pos l1.pos lb.pos
  refine mk_frac (by omega) (by omega) ?_
  have s0 := l2.pos
  have : a1 * T * (Q * b2) * S = P * b1 * (a2 * U) * S := by
    have x : a1 * T * (Q * b2) * S = a1 * (Q * S) * T * b2 := by grind
    have y : P * b1 * (a2 * U) * S = P * (b1 * (S * U)) * a2 := by grind
    rw [x, y, ea, eb]; grind
  exact Int.eq_of_mul_eq_mul_right (by omega) this
end Go.Proofs.Ytnggikhpnophgaa.Num
