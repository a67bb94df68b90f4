/- Plain law: what Over answers for two rats in lowest terms, and the plain law of NumFields. -/
import Derived.Test.YtnggikhpnophgaaNumZ
namespace Go.Proofs.Ytnggikhpnophgaa.Num
open Go.RowKit Go.Proofs.Ytnggikhpnophgaa.Given
set_option linter.unusedVariables false
set_option linter.unusedSimpArgs false

/-- A rat turned round. -/
def inN (r s : Int) : Int := if r < 0 then -s else s

theorem low_inv {r s : Int} (h : Low r s) (hr : r ≠ 0) : Low (inN r s) (sz r) := by
  have s0 := h.pos
  have c := h.co
  constructor
  · unfold sz; split <;> omega
  · unfold inN sz
    split
    · rw [Int.neg_gcd, Int.gcd_neg, Int.gcd_comm]; exact c
    · rw [Int.gcd_comm]; exact c

theorem over_times {p q r s : Int} (h : Low r s) (hr : r ≠ 0) : overL p q r s = timesL p q (inN r s) (sz r) := by
  have s0 := h.pos
  have e1 : Int.gcd p (sz r) = Int.gcd p r := by
    unfold sz; split
    · rw [Int.gcd_neg]
    · rfl
  have e2 : Int.gcd (inN r s) q = Int.gcd s q := by
    unfold inN; split
    · rw [Int.neg_gcd]
    · rfl
  have e3 : sz (inN r s) = s := by
    unfold sz inN; split <;> (split <;> omega)
  have e4 : sg p (inN r s) = sg p r := by
    have : decide (inN r s < 0) = decide (r < 0) := by
      unfold inN; split
      · rename_i h; rw [decide_eq_true h, decide_eq_true (by omega)]
      · rename_i h; rw [decide_eq_false h, decide_eq_false (by omega)]
    unfold sg; rw [this]
  unfold overL timesL overX timesX
  rw [e1, e2, e3, e4]

/-- Over of two in lowest terms answers the right rat. -/
theorem overR_mk {p q r s : Int} (h1 : Low p q) (h2 : Low r s) : overR p q r s = mk (p * s) (q * r) := by
  unfold overR
  rw [if_pos ⟨h1.pos, h2.pos⟩]
  by_cases hr : r = 0
  · rw [if_pos hr, hr]; unfold mk; rw [if_pos (by rw [Int.mul_zero])]
  · rw [if_neg hr]
    split
    · rfl
    · have l := low_inv h2 hr
      have hl := times_low h1 l
      have hm := Int.mul_pos h1.pos l.pos
      have e : timesL p q (inN r s) (sz r) = mk (p * inN r s) (q * sz r) := by
        unfold timesL both mk
        rw [if_neg (show ¬ q * sz r = 0 by omega), hl.1, hl.2]
      rw [over_times h2 hr, e]
      have q0 := h1.pos
      refine mk_frac (by omega) (fun z => ?_) ?_
      · rcases Int.mul_eq_zero.1 z with z | z <;> omega
      · unfold inN sz; split <;> grind

theorem overR_in (p q r s : Int) : In64 (overR p q r s).1 ∧ In64 (overR p q r s).2.1 := by
  unfold overR
  split
  · split
    · exact ⟨by decide, by decide⟩
    · split
      · exact mk_in ..
      · exact both_in ..
  · exact ⟨by decide, by decide⟩

theorem mk_low {P Q : Int} (h : Low P Q) (hP : In64 P) (hQ : In64 Q) : mk P Q = (P, Q, true) := by
  have q0 := h.pos
  have := low_eq (p := P) (q := Q) (by omega) h rfl
  unfold mk
  rw [if_neg (by omega), this.1, this.2, if_pos ⟨hP, hQ⟩]

/-- What is the same fraction as a right rat, makes that rat. -/
theorem mk_of {x y P Q : Int} (hy : y ≠ 0) (h : Low P Q) (hP : In64 P) (hQ : In64 Q) (e : x * Q = P * y) : mk x y = (P, Q, true) := by
  have q0 := h.pos
  rw [mk_frac hy (by omega) e, mk_low h hP hQ]

theorem sum_comm {P Q R S : Int} (l1 : Low P Q) (l2 : Low R S) : sumR P Q R S false = sumR R S P Q false := by
  rw [sumR_mk false l1 l2, sumR_mk false l2 l1]
  simp only [top, Bool.false_eq_true, if_false]
  rw [Int.add_comm, Int.mul_comm Q S]

theorem times_comm {P Q R S : Int} (l1 : Low P Q) (l2 : Low R S) : timesR P Q R S = timesR R S P Q := by
  rw [timesR_mk l1 l2, timesR_mk l2 l1, Int.mul_comm P R, Int.mul_comm Q S]

theorem sum_back {P Q R S x1 x2 : Int} (l1 : Low P Q) (l2 : Low R S) (hP : In64 P) (hQ : In64 Q) (hx : sumR P Q R S false = (x1, x2, true)) :
    sumR x1 x2 R S true = (P, Q, true) := by
  rw [sumR_mk false l1 l2] at hx
  obtain ⟨lx, ex⟩ := mk_true hx
  rw [sumR_mk true lx l2]
  have m := Int.mul_pos lx.pos l2.pos
  refine mk_of (by omega) l1 hP hQ ?_
  simp only [top, Bool.false_eq_true, if_false, if_true] at ex ⊢
  have : (x1 * S - R * x2) * Q = x1 * (Q * S) - R * x2 * Q := by grind
  rw [this, ex]; grind

theorem times_back {P Q R S x1 x2 : Int} (l1 : Low P Q) (l2 : Low R S) (hr : R ≠ 0) (hP : In64 P) (hQ : In64 Q) (hx : timesR P Q R S = (x1, x2, true)) :
    overR x1 x2 R S = (P, Q, true) := by
  rw [timesR_mk l1 l2] at hx
  obtain ⟨lx, ex⟩ := mk_true hx
  rw [overR_mk lx l2]
  have m := lx.pos
  refine mk_of (fun z => ?_) l1 hP hQ ?_
  · rcases Int.mul_eq_zero.1 z with z | z <;> omega
  · have : x1 * S * Q = x1 * (Q * S) := by grind
    rw [this, ex]; grind

theorem distrib {P Q R S T U x1 x2 y1 y2 m1 m2 n1 n2 : Int} (l1 : Low P Q) (l2 : Low R S) (l3 : Low T U)
    (hx : sumR P Q R S false = (x1, x2, true)) (hy : timesR x1 x2 T U = (y1, y2, true)) (hm : timesR P Q T U = (m1, m2, true)) (hn : timesR R S T U = (n1, n2, true)) :
    sumR m1 m2 n1 n2 false = (y1, y2, true) := by
  have iy := timesR_in x1 x2 T U
  rw [hy] at iy
  rw [sumR_mk false l1 l2] at hx
  obtain ⟨lx, ex⟩ := mk_true hx
  rw [timesR_mk lx l3] at hy
  obtain ⟨ly, ey⟩ := mk_true hy
  rw [timesR_mk l1 l3] at hm
  obtain ⟨lm, em⟩ := mk_true hm
  rw [timesR_mk l2 l3] at hn
  obtain ⟨ln, en⟩ := mk_true hn
  rw [sumR_mk false lm ln]
  have mm := Int.mul_pos lm.pos ln.pos
  refine mk_of (by omega) ly iy.1 iy.2 ?_
  simp only [top, Bool.false_eq_true, if_false] at ex ⊢
  have h1 := Int.mul_pos l1.pos (Int.mul_pos l2.pos (Int.mul_pos l3.pos (Int.mul_pos l3.pos lx.pos)))
  have : (m1 * n2 + n1 * m2) * y2 * (Q * (S * (U * (U * x2)))) = y1 * (m2 * n2) * (Q * (S * (U * (U * x2)))) := by
    have a : (m1 * n2 + n1 * m2) * y2 * (Q * (S * (U * (U * x2)))) = (m1 * (Q * U)) * n2 * y2 * S * U * x2 + (n1 * (S * U)) * m2 * y2 * Q * U * x2 := by grind
    have b : y1 * (m2 * n2) * (Q * (S * (U * (U * x2)))) = (y1 * (x2 * U)) * m2 * n2 * Q * S * U := by grind
    rw [a, b, em, en, ey]
    have c : x1 * T * y2 * m2 * n2 * Q * S * U = (x1 * (Q * S)) * T * y2 * m2 * n2 * U := by grind
    rw [c, ex]; grind
  exact Int.eq_of_mul_eq_mul_right (by omega) this
end Go.Proofs.Ytnggikhpnophgaa.Num
