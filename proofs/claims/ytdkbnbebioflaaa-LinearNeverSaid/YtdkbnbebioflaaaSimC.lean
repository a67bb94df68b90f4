/- Plain: how large the numbers of the simplex become (Cramer). -/
import Derived.Test.YtdkbnbebioflaaaSimD
namespace Go.Proofs.Ytdkbnbebioflaaa.Sim
set_option linter.unusedVariables false
set_option linter.unusedSimpArgs false

theorem abs_mul_le {x y : Int} {a b : Nat} (hx : x.natAbs ≤ a) (hy : y.natAbs ≤ b) : (x * y).natAbs ≤ a * b := by
  rw [Int.natAbs_mul]; exact Nat.mul_le_mul hx hy
theorem abs_add_le {x y : Int} {a b : Nat} (hx : x.natAbs ≤ a) (hy : y.natAbs ≤ b) : (x + y).natAbs ≤ a + b := by omega
/-- Rows of small whole numbers, of at most three unknowns. -/
structure Small (q : Qu) (c : Nat → Nat → Int) : Prop where
  three : q.n ≤ 3
  is : ∀ j k, q.C j k = (c j k : Rat)
  small : ∀ j k, (c j k).natAbs ≤ 9

/-- A number times a determinant is a small whole number. -/
def Frac (D : Int) (B : Nat) (r : Rat) : Prop := ∃ E : Int, r * D = (E : Rat) ∧ E.natAbs ≤ B
theorem Frac.int (D : Int) {B b : Nat} (hD : D.natAbs ≤ B) {x : Int} (hx : x.natAbs ≤ b) : Frac D (b * B) (x : Rat) :=
  ⟨x * D, by rw [Rat.intCast_mul], abs_mul_le hx hD⟩
theorem Frac.add {D : Int} {B C : Nat} {x y : Rat} (hx : Frac D B x) (hy : Frac D C y) : Frac D (B + C) (x + y) := by
  obtain ⟨E, e1, e2⟩ := hx
  obtain ⟨F, f1, f2⟩ := hy
  exact ⟨E + F, by rw [Rat.intCast_add, ← e1, ← f1]; grind, abs_add_le e2 f2⟩
theorem Frac.mono {D : Int} {B C : Nat} {x : Rat} (hx : Frac D B x) (h : B ≤ C) : Frac D C x := by
  obtain ⟨E, e1, e2⟩ := hx
  exact ⟨E, e1, Nat.le_trans e2 h⟩
/-- Numerator and denominator. -/
theorem Frac.parts {D : Int} (hD : D ≠ 0) {B : Nat} {x : Rat} (hx : Frac D B x) : x.den ∣ D.natAbs ∧ x.num.natAbs ≤ B := by
  obtain ⟨E, e1, e2⟩ := hx
  have hd : ((x.den : Int) : Rat) ≠ 0 := by
    intro e
    have : ((x.den : Int) : Rat) = ((0 : Int) : Rat) := e.trans rfl
    have := Rat.intCast_inj.1 this
    exact x.den_nz (by omega)
  have hx : x = ((x.num : Int) : Rat) / ((x.den : Int) : Rat) := by
    rw [← Rat.divInt_eq_div]; exact (Rat.num_divInt_den x).symm
  have key : x.num * D = E * (x.den : Int) := by
    apply Rat.intCast_inj.1
    rw [Rat.intCast_mul, Rat.intCast_mul, ← e1]
    generalize ((x.den : Int) : Rat) = d at *
    generalize ((x.num : Int) : Rat) = n at *
    rw [hx]; grind
  have key2 : x.num.natAbs * D.natAbs = E.natAbs * x.den := by
    have := congrArg Int.natAbs key
    rwa [Int.natAbs_mul, Int.natAbs_mul, Int.natAbs_natCast] at this
  have hc := x.reduced
  refine ⟨?_, ?_⟩
  · exact Nat.Coprime.dvd_of_dvd_mul_left (Nat.Coprime.symm hc) ⟨E.natAbs, by rw [key2, Nat.mul_comm]⟩
  · have h1 : x.num.natAbs ∣ E.natAbs := Nat.Coprime.dvd_of_dvd_mul_right hc ⟨D.natAbs, by rw [← key2]⟩
    by_cases h0 : E.natAbs = 0
    · rw [h0, Nat.zero_mul] at key2
      rcases Nat.mul_eq_zero.1 key2 with h | h
      · omega
      · omega
    · exact Nat.le_trans (Nat.le_of_dvd (by omega) h1) e2
end Go.Proofs.Ytdkbnbebioflaaa.Sim
