/- Plain law of NumThree: sums and products of three rats are the same whichever pair comes first. -/
import Derived.Test.YtdkbnbebioflaaaNumY
namespace Go.Proofs.Ytdkbnbebioflaaa.Num
open Go.RowKit Go.Proofs.Ytdkbnbebioflaaa.Given
set_option linter.unusedVariables false
set_option linter.unusedSimpArgs false

/-- Equal fractions make the same rat. -/
theorem mk_frac {x y x' y' : Int} (hy : y ≠ 0) (hy' : y' ≠ 0) (e : x * y' = x' * y) : mk x y = mk x' y' := by
  have hv := low_val (p := x) hy
  have := low_eq (p := x') (q := y') hy' (low_low (p := x) hy) (by
    have : lowP x y * y' * y = x' * lowQ x y * y := by
      rw [show lowP x y * y' * y = lowP x y * y * y' by grind, hv, show x * lowQ x y * y' = x * y' * lowQ x y by grind, e]; grind
    exact Int.eq_of_mul_eq_mul_right hy this)
  unfold mk
  rw [if_neg hy, if_neg hy', this.1, this.2]

theorem mk_in (p q : Int) : In64 (mk p q).1 ∧ In64 (mk p q).2.1 := by
  rcases mk_cases p q with ⟨-, h⟩ | ⟨P, Q, h, -, -, -, h1, h2, -⟩
  · rw [h]; exact ⟨by decide, by decide⟩
  · rw [h]; exact ⟨h1, h2⟩
/-- What mk makes, when it makes something. -/
theorem mk_true {p q a b : Int} (h : mk p q = (a, b, true)) : Low a b ∧ a * q = p * b := by
  rcases mk_cases p q with ⟨h', -⟩ | ⟨P, Q, h', -, -, -, -, -, l, e⟩
  · rw [h] at h'; cases h'
  · rw [h] at h'
    have e1 := congrArg Prod.fst h'
    have e2 := congrArg (fun z => z.2.1) h'
    simp only at e1 e2
    subst e1 e2
    exact ⟨l, e⟩

end Go.Proofs.Ytdkbnbebioflaaa.Num
