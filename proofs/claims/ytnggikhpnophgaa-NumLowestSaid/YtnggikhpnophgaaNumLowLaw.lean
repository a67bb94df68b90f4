/- Plain law of NumLowest: whatever is answered is right. -/
import Derived.Test.YtnggikhpnophgaaNumOverLaw
namespace Go.Proofs.Ytnggikhpnophgaa.Num
open Go.RowKit Go.Proofs.Ytnggikhpnophgaa.Given
set_option linter.unusedVariables false
set_option linter.unusedSimpArgs false

/-- What mk answers, Make tells itself. -/
theorem mk_self {p q x y : Int} {b : Bool} (h : mk p q = (x, y, b)) : (b = true ∧ mk x y = (x, y, true)) ∨ (b = false ∧ x = 0 ∧ y = 0) := by
  cases b with
  | true =>
    have hi := mk_in p q
    rw [h] at hi
    exact .inl ⟨rfl, mk_low (mk_true h).1 hi.1 hi.2⟩
  | false =>
    refine .inr ⟨rfl, ?_⟩
    unfold mk at h
    split at h
    · simp only [Prod.mk.injEq] at h; exact ⟨h.1.symm, h.2.1.symm⟩
    · split at h
      · simp at h
      · simp only [Prod.mk.injEq] at h; exact ⟨h.1.symm, h.2.1.symm⟩

theorem over_self {P Q : Int} (l : Low P Q) (hP : P ≠ 0) : overR P Q P Q = (1, 1, true) := by
  rw [overR_mk l l]
  have q0 := l.pos
  refine mk_of (fun z => ?_) ⟨by decide, by decide⟩ (by decide) (by decide) (by grind)
  rcases Int.mul_eq_zero.1 z with z | z <;> omega

theorem over_nil {Q : Int} (l : Low 0 Q) : ∃ a b, overR 0 Q 0 Q = (a, b, false) := by
  refine ⟨0, 0, ?_⟩
  unfold overR
  rw [if_pos ⟨l.pos, l.pos⟩, if_pos rfl]

theorem mk_turned {p q : Int} (hq : q ≠ 0) : mk (-p) (-q) = mk p q := mk_frac (by omega) hq (by grind)

theorem mk_q {p q x y : Int} (h : mk p q = (x, y, true)) : q ≠ 0 := by
  rintro rfl
  unfold mk at h
  rw [if_pos rfl] at h
  simp at h
end Go.Proofs.Ytnggikhpnophgaa.Num
