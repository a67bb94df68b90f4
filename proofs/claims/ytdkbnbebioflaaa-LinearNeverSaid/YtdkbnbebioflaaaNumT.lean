/- Plain law: what the right rat of two numbers is. -/
import Derived.Test.YtdkbnbebioflaaaNumI
import Derived.RowKit
namespace Go.Proofs.Ytdkbnbebioflaaa.Num
set_option linter.unusedVariables false
set_option linter.unusedSimpArgs false
open Go.RowKit

/-- In lowest terms. -/
structure Low (P Q : Int) : Prop where
  pos : 0 < Q
  co : Int.gcd P Q = 1

theorem dvd_of_co {a b c : Int} (h : Int.gcd a b = 1) (hd : a ∣ b * c) : a ∣ c := by
  rw [← Int.natAbs_dvd_natAbs] at hd ⊢
  rw [Int.natAbs_mul] at hd
  exact Nat.Coprime.dvd_of_dvd_mul_left h hd

theorem eq_of_dvd {a b : Int} (ha : 0 < a) (hb : 0 < b) (h1 : a ∣ b) (h2 : b ∣ a) : a = b := by
  have := Int.le_of_dvd hb h1
  have := Int.le_of_dvd ha h2
  omega

/-- Two in lowest terms that are the same rat are the same. -/
theorem Low.uniq {P Q P' Q' : Int} (h : Low P Q) (h' : Low P' Q') (e : P * Q' = P' * Q) : P = P' ∧ Q = Q' := by
  have d1 : Q ∣ Q' := by
    refine dvd_of_co (b := P) (by rw [Int.gcd_comm]; exact h.co) ?_
    exact ⟨P', by rw [e, Int.mul_comm]⟩
  have d2 : Q' ∣ Q := by
    refine dvd_of_co (b := P') (by rw [Int.gcd_comm]; exact h'.co) ?_
    exact ⟨P, by rw [← e, Int.mul_comm]⟩
  have hQ := eq_of_dvd h.pos h'.pos d1 d2
  subst hQ
  exact ⟨Int.eq_of_mul_eq_mul_right (by have := h.pos; omega) e, rfl⟩

theorem sz_abs (a : Int) : sz a = (a.natAbs : Int) := by unfold sz; split <;> omega

theorem low_low {p q : Int} (hq : q ≠ 0) : Low (lowP p q) (lowQ p q) := by
  have g0 := gcd_pos (p := p) hq
  have d1 := Int.gcd_dvd_left p q
  have d2 := Int.gcd_dvd_right p q
  have e1 : (Int.gcd p q : Int) ∣ sz p := by rw [sz_abs]; exact Int.dvd_natAbs.2 d1
  have e2 : (Int.gcd p q : Int) ∣ sz q := by rw [sz_abs]; exact Int.dvd_natAbs.2 d2
  constructor
  · unfold lowQ
    have : 0 < sz q := by unfold sz; split <;> omega
    exact Int.ediv_pos_of_pos_of_dvd this (Int.le_of_lt g0) e2
  · have hz : sz q ≠ 0 := by unfold sz; split <;> omega
    have k := Int.gcd_ediv_gcd_ediv_gcd_of_ne_zero_right (n := sz p) hz
    rw [gcd_sz] at k
    unfold lowP lowQ
    split
    · rw [Int.neg_gcd]; exact k
    · exact k

theorem low_val {p q : Int} (hq : q ≠ 0) : lowP p q * q = p * lowQ p q := by
  have g0 := gcd_pos (p := p) hq
  have e1 : (Int.gcd p q : Int) ∣ sz p := by rw [sz_abs]; exact Int.dvd_natAbs.2 (Int.gcd_dvd_left p q)
  have e2 : (Int.gcd p q : Int) ∣ sz q := by rw [sz_abs]; exact Int.dvd_natAbs.2 (Int.gcd_dvd_right p q)
  unfold lowP lowQ
  obtain ⟨a, ha⟩ := e1
  obtain ⟨b, hb⟩ := e2
  rw [ha, hb, Int.mul_ediv_cancel_left _ (by omega), Int.mul_ediv_cancel_left _ (by omega)]
  generalize (Int.gcd p q : Int) = g at *
  unfold sz at ha hb
  unfold sg
  by_cases h1 : p < 0 <;> by_cases h2 : q < 0 <;> simp [h1, h2] at ha hb ⊢
  · have : p = -(g * a) := by omega
    have : q = -(g * b) := by omega
    subst p q; grind
  · have : p = -(g * a) := by omega
    subst p; rw [hb]; grind
  · have : q = -(g * b) := by omega
    subst q; rw [ha]; grind
  · rw [ha, hb]; grind

/-- Who is in lowest terms and the same rat, is it. -/
theorem low_eq {p q P Q : Int} (hq : q ≠ 0) (h : Low P Q) (e : P * q = p * Q) : lowP p q = P ∧ lowQ p q = Q := by
  refine Low.uniq (low_low hq) h ?_
  have e1 := low_val (p := p) hq
  have : lowP p q * Q * q = P * lowQ p q * q := by
    have a1 : lowP p q * Q * q = lowP p q * q * Q := by grind
    have a2 : P * lowQ p q * q = P * q * lowQ p q := by grind
    rw [a1, a2, e1, e]; grind
  exact Int.eq_of_mul_eq_mul_right hq this

theorem mk_cases (p q : Int) : ((mk p q).2.2 = false ∧ mk p q = (0, 0, false)) ∨ (∃ P Q, mk p q = (P, Q, true) ∧ q ≠ 0 ∧ P = lowP p q ∧ Q = lowQ p q ∧ In64 P ∧ In64 Q ∧ Low P Q ∧ P * q = p * Q) := by
  unfold mk
  by_cases h0 : q = 0
  · rw [if_pos h0]; exact .inl ⟨rfl, rfl⟩
  · rw [if_neg h0]
    by_cases h1 : In64 (lowP p q) ∧ In64 (lowQ p q)
    · rw [if_pos h1]; exact .inr ⟨_, _, rfl, h0, rfl, rfl, h1.1, h1.2, low_low h0, low_val h0⟩
    · rw [if_neg h1]; exact .inl ⟨rfl, rfl⟩

/-- Who is whole, of those in lowest terms. -/
theorem Low.whole {P Q : Int} (h : Low P Q) : P % Q = 0 ↔ Q = 1 := by
  constructor
  · intro hz
    have d := Int.dvd_of_emod_eq_zero hz
    have := h.co
    have e : Int.gcd P Q = Q.natAbs := Int.gcd_eq_natAbs_right d
    have := h.pos
    omega
  · intro h1; rw [h1]; exact Int.emod_one P
theorem in64_wf {a : Int} (h : (Lit.int .i64 a).wf = true) : In64 a := by
  simp only [Lit.wf, IntKind.min, IntKind.max, IntKind.signed, IntKind.bits, Bool.and_eq_true, decide_eq_true_eq, if_true] at h
  unfold In64; omega
end Go.Proofs.Ytdkbnbebioflaaa.Num
