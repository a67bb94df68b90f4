/- Plain law: what Over answers for two rats in lowest terms, and the plain law of NumFields. -/
import Derived.Test.YtdkbnbebioflaaaNumZ
namespace Go.Proofs.Ytdkbnbebioflaaa.Num
open Go.RowKit Go.Proofs.Ytdkbnbebioflaaa.Given
set_option linter.unusedVariables false
set_option linter.unusedSimpArgs false

/-- A rat turned round. -/
def inN (r s : Int) : Int := if r < 0 then -s else s

theorem low_inv {r s : Int} (h : Low r s) (hr : r ≠ 0) : Low (inN r s) (sz r) := by
  have s0 := h.pos
  have c := h.co
  constructor
  · unfold sz; split <;> omega
  · unfold inN sz
    split
    · rw [Int.neg_gcd, Int.gcd_neg, Int.gcd_comm]; exact c
    · rw [Int.gcd_comm]; exact c

theorem over_times {p q r s : Int} (h : Low r s) (hr : r ≠ 0) : overL p q r s = timesL p q (inN r s) (sz r) := by
  have s0 := h.pos
  have e1 : Int.gcd p (sz r) = Int.gcd p r := by
    unfold sz; split
    · rw [Int.gcd_neg]
    · rfl
  have e2 : Int.gcd (inN r s) q = Int.gcd s q := by
    unfold inN; split
    · rw [Int.neg_gcd]
    · rfl
  have e3 : sz (inN r s) = s := by
    unfold sz inN; split <;> (split <;> omega)
  have e4 : sg p (inN r s) = sg p r := by
    have : decide (inN r s < 0) = decide (r < 0) := by
      unfold inN; split
      · rename_i h; rw [decide_eq_true h, decide_eq_true (by omega)]
      · rename_i h; rw [decide_eq_false h, decide_eq_false (by omega)]
    unfold sg; rw [this]
  unfold overL timesL overX timesX
  rw [e1, e2, e3, e4]

/-- Over of two in lowest terms answers the right rat. -/
theorem overR_mk {p q r s : Int} (h1 : Low p q) (h2 : Low r s) : overR p q r s = mk (p * s) (q * r) := by
  unfold overR
  rw [if_pos ⟨h1.pos, h2.pos⟩]
  by_cases hr : r = 0
  · rw [if_pos hr, hr]; unfold mk; rw [if_pos (by rw [Int.mul_zero])]
  · rw [if_neg hr]
    split
    · rfl
    · have l := low_inv h2 hr
      have hl := times_low h1 l
      have hm := Int.mul_pos h1.pos l.pos
      have e : timesL p q (inN r s) (sz r) = mk (p * inN r s) (q * sz r) := by
        unfold timesL both mk
        rw [if_neg (show ¬ q * sz r = 0 by omega), hl.1, hl.2]
      rw [over_times h2 hr, e]
      have q0 := h1.pos
      refine mk_frac (by omega) (fun z => ?_) ?_
      · rcases Int.mul_eq_zero.1 z with z | z <;> omega
      · unfold inN sz; split <;> grind

theorem mk_low {P Q : Int} (h : Low P Q) (hP : In64 P) (hQ : In64 Q) : mk P Q = (P, Q, true) := by
  have q0 := h.pos
  have := low_eq (p := P) (q := Q) (by omega) h rfl
  unfold mk
  rw [if_neg (by omega), this.1, this.2, if_pos ⟨hP, hQ⟩]

end Go.Proofs.Ytdkbnbebioflaaa.Num
