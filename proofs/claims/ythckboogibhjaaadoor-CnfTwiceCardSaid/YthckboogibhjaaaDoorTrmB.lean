/- Plain law: Go's measure tells whether a term is too large or too deep. -/
import Derived.Test.YthckboogibhjaaaDoorTrmU
namespace Go.Proofs.YthckboogibhjaaaDoor.Trm
set_option linter.unusedVariables false
set_option linter.unusedSimpArgs false
open Go.RowKit Go.Proofs.YthckboogibhjaaaDoorW.PrintWords

mutual
theorem ofT_up : ∀ (t : S24) (d : Nat) (st : Nat × Nat), st.1 ≤ (ofT t d st).1 ∧ st.2 ≤ (ofT t d st).2 ∧ d ≤ (ofT t d st).2
  | ⟨_, _, _, l⟩, d, st => by
    rw [ofT]
    have := ofL_up l d (st.1 + 1, max st.2 d)
    simp only at this
    omega
theorem ofL_up : ∀ (l : List S24) (d : Nat) (st : Nat × Nat), st.1 ≤ (ofL l d st).1 ∧ st.2 ≤ (ofL l d st).2
  | [], d, st => by rw [ofL]; exact ⟨Nat.le_refl _, Nat.le_refl _⟩
  | x :: l, d, st => by
    rw [ofL]
    by_cases hc : 2000 < st.1 ∨ 100 < d
    · rw [if_pos hc]; exact ⟨Nat.le_refl _, Nat.le_refl _⟩
    · rw [if_neg hc]
      have a := ofT_up x (d + 1) st
      have b := ofL_up l d (ofT x (d + 1) st)
      omega
end

/-- Too large, or too deep. -/
def big (st : Nat × Nat) : Prop := 2000 < st.1 ∨ 100 < st.2

mutual
theorem ofT_is : ∀ (t : S24) (d : Nat) (st : Nat × Nat), 1 ≤ d → (st.1 + tsize t ≤ 2000 ∧ d + tdeep t ≤ 101 ∧ ofT t d st = (st.1 + tsize t, max st.2 (d + tdeep t - 1))) ∨ ((2000 < st.1 + tsize t ∨ 101 < d + tdeep t) ∧ big (ofT t d st))
  | ⟨_, _, _, l⟩, d, st, hd => by
    rw [ofT, tsize, tdeep]
    rcases ofL_is l d (st.1 + 1, max st.2 d) hd (by show d ≤ max st.2 d; omega) with ⟨h1, h2, h3⟩ | ⟨h1, h2⟩
    · refine .inl ⟨by simp only at h1; omega, by omega, ?_⟩
      rw [h3]
      simp only [Prod.mk.injEq]
      omega
    · refine .inr ⟨?_, h2⟩
      simp only at h1; omega
theorem ofL_is : ∀ (l : List S24) (d : Nat) (st : Nat × Nat), 1 ≤ d → d ≤ st.2 → (st.1 + lsize l ≤ 2000 ∧ d + ldeep l ≤ 100 ∧ ofL l d st = (st.1 + lsize l, max st.2 (d + ldeep l))) ∨ ((2000 < st.1 + lsize l ∨ 100 < d + ldeep l) ∧ big (ofL l d st))
  | [], d, st, hd, h2 => by
    rw [ofL, lsize, ldeep]
    by_cases hb : big st
    · by_cases hc : st.1 ≤ 2000 ∧ d ≤ 100
      · refine .inl ⟨by omega, by omega, ?_⟩
        rw [show max st.2 (d + 0) = st.2 by omega]; rfl
      · exact .inr ⟨by omega, hb⟩
    · unfold big at hb
      refine .inl ⟨by omega, by omega, ?_⟩
      rw [show max st.2 (d + 0) = st.2 by omega]; rfl
  | x :: l, d, st, hd, h2 => by
    rw [ofL, lsize, ldeep]
    have hx1 : 1 ≤ tsize x := by rw [tsize_mk]; omega
    have hx2 : 1 ≤ tdeep x := by rw [tdeep_mk]; omega
    by_cases hc : 2000 < st.1 ∨ 100 < d
    · rw [if_pos hc]
      exact .inr ⟨by omega, by unfold big; omega⟩
    · rw [if_neg hc]
      have up := ofL_up l d (ofT x (d + 1) st)
      have upx := ofT_up x (d + 1) st
      rcases ofT_is x (d + 1) st (by omega) with ⟨a1, a2, a3⟩ | ⟨a1, a2⟩
      · rcases ofL_is l d (ofT x (d + 1) st) hd (by omega) with ⟨b1, b2, b3⟩ | ⟨b1, b2⟩
        · rw [a3] at b1 b3 ⊢
          simp only at b1
          refine .inl ⟨by omega, by omega, ?_⟩
          rw [b3]
          simp only [Prod.mk.injEq]
          omega
        · refine .inr ⟨?_, b2⟩
          rw [a3] at b1
          simp only at b1
          omega
      · refine .inr ⟨by omega, ?_⟩
        unfold big at a2 ⊢
        omega
end

theorem bigT_is (t : S24) : bigT t = (decide (2000 < tsize t) || decide (100 < tdeep t)) := by
  rw [Bool.eq_iff_iff]
  unfold bigT
  simp only [Bool.or_eq_true, decide_eq_true_eq]
  rcases ofT_is t 1 (0, 0) (Nat.le_refl _) with ⟨h1, h2, h3⟩ | ⟨h1, h2⟩
  · rw [h3]
    simp only at h1 ⊢
    omega
  · unfold big at h2
    simp only at h1
    constructor
    · intro _; omega
    · intro _; exact h2
end Go.Proofs.YthckboogibhjaaaDoor.Trm
