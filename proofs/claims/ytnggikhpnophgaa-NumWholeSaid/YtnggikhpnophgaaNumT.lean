/- Plain law: what the right rat of two numbers is. -/
import Derived.Test.YtnggikhpnophgaaNumI
import Derived.RowKit
namespace Go.Proofs.Ytnggikhpnophgaa.Num
set_option linter.unusedVariables false
set_option linter.unusedSimpArgs false
open Go.RowKit

/-- In lowest terms. -/
structure Low (P Q : Int) : Prop where
  pos : 0 < Q
  co : Int.gcd P Q = 1

theorem dvd_of_co {a b c : Int} (h : Int.gcd a b = 1) (hd : a ∣ b * c) : a ∣ c := by
  rw [← Int.natAbs_dvd_natAbs] at hd ⊢
  rw [Int.natAbs_mul] at hd
  exact Nat.Coprime.dvd_of_dvd_mul_left h hd

theorem eq_of_dvd {a b : Int} (ha : 0 < a) (hb : 0 < b) (h1 : a ∣ b) (h2 : b ∣ a) : a = b := by
  have := Int.le_of_dvd hb h1
  have := Int.le_of_dvd ha h2
  omega

/-- Two in lowest terms that are the same rat are the same. -/
theorem Low.uniq {P Q P' Q' : Int} (h : Low P Q) (h' : Low P' Q') (e : P * Q' = P' * Q) : P = P' ∧ Q = Q' := by
  have d1 : Q ∣ Q' := by
    refine dvd_of_co (b := P) (by rw [Int.gcd_comm]; exact h.co) ?_
    exact ⟨P', by rw [e, Int.mul_comm]⟩
  have d2 : Q' ∣ Q := by
    refine dvd_of_co (b := P') (by rw [Int.gcd_comm]; exact h'.co) ?_
    exact ⟨P, by rw [← e, Int.mul_comm]⟩
  have hQ := eq_of_dvd h.pos h'.pos d1 d2
  subst hQ
  exact ⟨Int.eq_of_mul_eq_mul_right (by have := h.pos; omega) e, rfl⟩

theorem sz_abs (a : Int) : sz a = (a.natAbs : Int) := by unfold sz; split <;> omega

theorem low_low {p q : Int} (hq : q ≠ 0) : Low (lowP p q) (lowQ p q) := by
  have g0 := gcd_pos (p := p) hq
  have d1 := Int.gcd_dvd_left p q
  have d2 := Int.gcd_dvd_right p q
  have e1 : (Int.gcd p q : Int) ∣ sz p := by rw [sz_abs]; exact Int.dvd_natAbs.2 d1
  have e2 : (Int.gcd p q : Int) ∣ sz q := by rw [sz_abs]; exact Int.dvd_natAbs.2 d2
  constructor
  · unfold lowQ
    have : 0 < sz q := by unfold sz; split <;> omega
    exact Int.ediv_pos_of_pos_of_dvd this (Int.le_of_lt g0) e2
  · have hz : sz q ≠ 0 := by unfold sz; split <;> omega
    have k := Int.gcd_ediv_gcd_ediv_gcd_of_ne_zero_right (n := sz p) hz
    rw [gcd_sz] at k
    unfold lowP lowQ
    split
    · rw [Int.neg_gcd]; exact k
    · exact k

theorem low_val {p q : Int} (hq : q ≠ 0) : lowP p q * q = p * lowQ p q := by
  have g0 := gcd_pos (p := p) hq
  have e1 : (Int.gcd p q : Int) ∣ sz p := by rw [sz_abs]; exact Int.dvd_natAbs.2 (Int.gcd_dvd_left p q)
  have e2 : (Int.gcd p q : Int) ∣ sz q := by rw [sz_abs]; exact Int.dvd_natAbs.2 (Int.gcd_dvd_right p q)
  unfold lowP lowQ
  obtain ⟨a, ha⟩ := e1
  obtain ⟨b, hb⟩ := e2
  rw [ha, hb, Int.mul_ediv_cancel_left _ (by omega), Int.mul_ediv_cancel_left _ (by omega)]
  generalize (Int.gcd p q : Int) = g at *
  unfold sz at ha hb
  unfold sg
  by_cases h1 : p < 0 <;> by_cases h2 : q < 0 <;> simp [h1, h2] at ha hb ⊢
  · have : p = -(g * a) := by omega
    have : q = -(g * b) := by omega
    subst p q; grind
  · have : p = -(g * a) := by omega
    subst p; rw [hb]; grind
  · have : q = -(g * b) := by omega
    subst q; rw [ha]; grind
  · rw [ha, hb]; grind

/-- Who is in lowest terms and the same rat, is it. -/
theorem low_eq {p q P Q : Int} (hq : q ≠ 0) (h : Low P Q) (e : P * q = p * Q) : lowP p q = P ∧ lowQ p q = Q := by
  refine Low.uniq (low_low hq) h ?_
  have e1 := low_val (p := p) hq
  have : lowP p q * Q * q = P * lowQ p q * q := by
    have a1 : lowP p q * Q * q = lowP p q * q * Q := by grind
    have a2 : P * lowQ p q * q = P * q * lowQ p q := by grind
    rw [a1, a2, e1, e]; grind
  exact Int.eq_of_mul_eq_mul_right hq this

theorem mk_no {p q : Int} (h : mk p q = (0, 0, false) ∨ (mk p q).2.2 = true) : True := trivial

theorem mk_cases (p q : Int) : ((mk p q).2.2 = false ∧ mk p q = (0, 0, false)) ∨ (∃ P Q, mk p q = (P, Q, true) ∧ q ≠ 0 ∧ P = lowP p q ∧ Q = lowQ p q ∧ In64 P ∧ In64 Q ∧ Low P Q ∧ P * q = p * Q) := by
  unfold mk
  by_cases h0 : q = 0
  · rw [if_pos h0]; exact .inl ⟨rfl, rfl⟩
  · rw [if_neg h0]
    by_cases h1 : In64 (lowP p q) ∧ In64 (lowQ p q)
    · rw [if_pos h1]; exact .inr ⟨_, _, rfl, h0, rfl, rfl, h1.1, h1.2, low_low h0, low_val h0⟩
    · rw [if_neg h1]; exact .inl ⟨rfl, rfl⟩

theorem zero_of_small {k Q : Int} (hQ : 0 < Q) (h1 : -Q < k * Q) (h2 : k * Q < Q) : k = 0 := by
  by_cases a : k ≤ -1
  · have := Int.mul_le_mul_of_nonneg_right a (Int.le_of_lt hQ)
    omega
  · by_cases b : 1 ≤ k
    · have := Int.mul_le_mul_of_nonneg_right b (Int.le_of_lt hQ)
      omega
    · omega

/-- A quotient towards 0, and its rest, as the floor has them. -/
theorem tdiv_floor {P Q : Int} (hQ : 0 < Q) : (P.tmod Q < 0 ∧ P.tdiv Q - 1 = P / Q ∧ P % Q ≠ 0) ∨ (¬ P.tmod Q < 0 ∧ P.tdiv Q = P / Q) := by
  by_cases hP : 0 ≤ P
  · have h1 := Int.emod_nonneg P (show Q ≠ 0 by omega)
    rw [Int.tmod_eq_emod_of_nonneg hP, Int.tdiv_eq_ediv_of_nonneg hP]
    exact .inr ⟨by omega, rfl⟩
  · obtain ⟨n, rfl⟩ : ∃ n, P = -n := ⟨-P, by omega⟩
    have hn : 0 ≤ n := by omega
    rw [Int.neg_tmod, Int.neg_tdiv, Int.tmod_eq_emod_of_nonneg hn, Int.tdiv_eq_ediv_of_nonneg hn]
    have a1 := Int.mul_ediv_add_emod n Q
    have a2 := Int.mul_ediv_add_emod (-n) Q
    have b1 := Int.emod_nonneg n (show Q ≠ 0 by omega)
    have b2 := Int.emod_nonneg (-n) (show Q ≠ 0 by omega)
    have c1 := Int.emod_lt_of_pos n hQ
    have c2 := Int.emod_lt_of_pos (-n) hQ
    generalize n / Q = d at *
    generalize n % Q = m at *
    generalize (-n) / Q = e at *
    generalize (-n) % Q = f at *
    have s : Q * d + Q * e = Q * (d + e) := by grind
    by_cases hm : m = 0
    · have z := zero_of_small (k := d + e) hQ (by rw [Int.mul_comm]; omega) (by rw [Int.mul_comm]; omega)
      exact .inr ⟨by omega, by omega⟩
    · have s2 : Q * (d + e + 1) = Q * (d + e) + Q := by grind
      have z := zero_of_small (k := d + e + 1) hQ (by rw [Int.mul_comm]; omega) (by rw [Int.mul_comm]; omega)
      refine .inl ⟨by omega, by omega, ?_⟩
      have : d + e = -1 := by omega
      rw [this] at s
      omega

theorem ediv_in {P Q : Int} (hP : In64 P) (hQ : 0 < Q) : In64 (P / Q) := by
  obtain ⟨h1, h2⟩ := hP
  have up : P / Q < 9223372036854775808 := by
    apply Int.ediv_lt_of_lt_mul hQ
    have : 9223372036854775808 * 1 ≤ 9223372036854775808 * Q := Int.mul_le_mul_of_nonneg_left (by omega) (by omega)
    omega
  have dn : -9223372036854775808 ≤ P / Q := by
    apply Int.le_ediv_of_mul_le hQ
    have : -9223372036854775808 * Q ≤ -9223372036854775808 * 1 := Int.mul_le_mul_of_nonpos_left (by omega) (by omega)
    omega
  exact ⟨by omega, by omega⟩

/-- Who is whole, of those in lowest terms. -/
theorem Low.whole {P Q : Int} (h : Low P Q) : P % Q = 0 ↔ Q = 1 := by
  constructor
  · intro hz
    have d := Int.dvd_of_emod_eq_zero hz
    have := h.co
    have e : Int.gcd P Q = Q.natAbs := Int.gcd_eq_natAbs_right d
    have := h.pos
    omega
  · intro h1; rw [h1]; exact Int.emod_one P
/-- The least whole number that is not below. -/
def ceil (P Q : Int) : Int := if P % Q = 0 then P / Q else P / Q + 1

theorem ceil_le {a P Q : Int} (hQ : 0 < Q) : ceil P Q ≤ a ↔ P ≤ a * Q := by
  have h := Int.ediv_lt_iff_lt_mul (a := P) (b := a) hQ
  unfold ceil
  split
  · rename_i hz
    have e := Int.mul_ediv_add_emod P Q
    rw [hz] at e
    constructor
    · intro k
      have := Int.mul_le_mul_of_nonneg_right k (Int.le_of_lt hQ)
      have : P / Q * Q = Q * (P / Q) := Int.mul_comm ..
      omega
    · intro k
      by_cases z : P / Q ≤ a
      · exact z
      · exfalso
        have y : a + 1 ≤ P / Q := by omega
        have := Int.mul_le_mul_of_nonneg_right y (Int.le_of_lt hQ)
        have e1 : (a + 1) * Q = a * Q + Q := by grind
        have : P / Q * Q = Q * (P / Q) := Int.mul_comm ..
        omega
  · rename_i hz
    constructor
    · intro k
      have := h.1 (by omega)
      omega
    · intro k
      by_cases z : P = a * Q
      · exact absurd (by rw [z]; exact Int.mul_emod_left a Q) hz
      · have := h.2 (by omega)
        omega

theorem ceil_neg {P Q : Int} (hQ : 0 < Q) : -P / Q = - ceil P Q := by
  have a1 : -P / Q ≤ - ceil P Q := by
    have := (ceil_le (a := -(-P / Q)) (P := P) hQ).2 (by
      have := Int.ediv_mul_le (-P) (show Q ≠ 0 by omega)
      have e : -(-P / Q) * Q = -(-P / Q * Q) := by grind
      omega)
    omega
  have a2 : - ceil P Q ≤ -P / Q := by
    refine (Int.le_ediv_iff_mul_le hQ).2 ?_
    have := (ceil_le (a := ceil P Q) (P := P) hQ).1 (Int.le_refl _)
    have e : -ceil P Q * Q = -(ceil P Q * Q) := by grind
    omega
  omega

theorem in64_wf {a : Int} (h : (Lit.int .i64 a).wf = true) : In64 a := by
  simp only [Lit.wf, IntKind.min, IntKind.max, IntKind.signed, IntKind.bits, Bool.and_eq_true, decide_eq_true_eq, if_true] at h
  unfold In64; omega
theorem fitp_in (x : Int) : In64 (fitp x).1 := by
  unfold fitp; split
  · assumption
  · exact ⟨by omega, by omega⟩
theorem wrap_in {x : Int} (h : In64 x) : wrap64 x = x := by
  obtain ⟨h1, h2⟩ := h; unfold wrap64; omega
theorem ceil_in {P Q : Int} (hP : In64 P) (h : Low P Q) : In64 (ceil P Q) := by
  have hF := ediv_in hP h.pos
  unfold ceil
  split
  · exact hF
  · rename_i hz
    obtain ⟨a, b⟩ := hP
    obtain ⟨c, d⟩ := hF
    have q0 := h.pos
    refine ⟨by omega, ?_⟩
    by_cases k : P / Q < 9223372036854775807
    · omega
    · exfalso
      have h1 : Q ≠ 1 := fun e => hz (h.whole.2 e)
      have q2 : 2 ≤ Q := by omega
      have dm := Int.mul_ediv_add_emod P Q
      have m0 := Int.emod_nonneg P (show Q ≠ 0 by omega)
      have : 2 * (P / Q) ≤ Q * (P / Q) := Int.mul_le_mul_of_nonneg_right q2 (by omega)
      omega
end Go.Proofs.Ytnggikhpnophgaa.Num
