/- Contracts of num: small, lowest. -/
import Derived.Test.YtdkbnbebioflaaaNumI
namespace Go.Proofs
theorem Z2j0 {p : Prop} (h : p := by repeat (first | exact Below.refl _ _ | with_reducible assumption | refine Below.alloc ?_ (by first | exact Nat.le_refl _ | (simp; done) | (simp; omega) | omega) _ | refine Below.setCell ?_ (by first | exact Nat.le_refl _ | (simp; done) | (simp; omega) | omega) _ | refine Below.drew ?_ | refine bdrewN ?_ _)) : p := h
theorem Z2j1 {p : Prop} (h : p := by first | exact Nat.le_refl _ | (simp; done) | (simp; omega) | omega) : p := h
end Go.Proofs
namespace Go.Proofs.Ytdkbnbebioflaaa.Num
open Go.RowKit
set_option linter.unusedVariables false
set_option linter.unusedSimpArgs false

def smallB (p q : Int) : Bool := decide (p < 1073741824 ∧ -1073741824 < p ∧ q < 1073741824)

theorem small_any (p q : Int) (w : World) :
    Calls Try.prog 63 #[RV p q] w fun e w' => e = .returned (.bool (smallB p q)) ∧ w' = w.alloc (.cells #[.int .i64 p, .int .i64 q] 29) := by
  unfold smallB
  by_cases h1 : p < 1073741824
  · have e1 : decide (p < 1073741824) = true := decide_eq_true h1
    by_cases h2 : -1073741824 < p
    · have e2 : decide (-1073741824 < p) = true := decide_eq_true h2
      have hf : decide (p < 1073741824 ∧ -1073741824 < p ∧ q < 1073741824) = decide (q < 1073741824) := by simp [h1, h2]
      rw [hf]
      clear hf
      go_enter Try.func63, Try.ntmps63
      go_wp2
      go_ret
      exact ⟨rfl, rfl⟩
    · have e2 : decide (-1073741824 < p) = false := decide_eq_false h2
      have hf : decide (p < 1073741824 ∧ -1073741824 < p ∧ q < 1073741824) = false := decide_eq_false (fun h => h2 h.2.1)
      rw [hf]
      clear hf
      go_enter Try.func63, Try.ntmps63
      go_wp2
      go_ret
      exact ⟨rfl, rfl⟩
  · have e1 : decide (p < 1073741824) = false := decide_eq_false h1
    have hf : decide (p < 1073741824 ∧ -1073741824 < p ∧ q < 1073741824) = false := decide_eq_false (fun h => h1 h.1)
    rw [hf]
    clear hf
    go_enter Try.func63, Try.ntmps63
    go_wp2
    go_ret
    exact ⟨rfl, rfl⟩

theorem low_tdiv {p q : Int} (hq : 0 < q) (hp : In64 p) : wrap64 (p.tdiv (Int.gcd p q)) = lowP p q := by
  have g0 := gcd_pos (p := p) (q := q) (by omega)
  obtain ⟨h1, h2⟩ := hp
  unfold lowP sg sz
  by_cases hn : p < 0
  · have e : Int.tdiv p (Int.gcd p q) = -((-p) / (Int.gcd p q : Int)) := by
      rw [← Int.tdiv_eq_ediv_of_nonneg (by omega), Int.neg_tdiv, Int.neg_neg]
    rw [e]
    have k1 := Int.ediv_nonneg (a := -p) (by omega) (Int.le_of_lt g0)
    have k2 := Int.ediv_le_self (a := -p) (Int.gcd p q : Int) (by omega)
    simp [hn, show ¬ q < 0 from by omega]
    unfold wrap64
    omega
  · rw [Int.tdiv_eq_ediv_of_nonneg (by omega)]
    have k1 := Int.ediv_nonneg (a := p) (by omega) (Int.le_of_lt g0)
    have k2 := Int.ediv_le_self (a := p) (Int.gcd p q : Int) (by omega)
    simp [hn, show ¬ q < 0 from by omega]
    unfold wrap64
    omega

theorem low_tdivq {p q : Int} (hq : 0 < q) (hp : In64 q) : wrap64 (q.tdiv (Int.gcd p q)) = lowQ p q := by
  have g0 := gcd_pos (p := p) (q := q) (by omega)
  obtain ⟨h1, h2⟩ := hp
  unfold lowQ sz
  rw [Int.tdiv_eq_ediv_of_nonneg (by omega)]
  have k1 := Int.ediv_nonneg (a := q) (by omega) (Int.le_of_lt g0)
  have k2 := Int.ediv_le_self (a := q) (Int.gcd p q : Int) (by omega)
  simp [show ¬ q < 0 from by omega]
  unfold wrap64
  omega

theorem lowest_any (p q : Int) (w : World) (hp : In64 p) (hq : In64 q) (h0 : 0 < q) :
    Calls Try.prog 64 #[.int .i64 p, .int .i64 q] w fun e w' => e = .returned (RV (lowP p q) (lowQ p q)) ∧ Below w.heap.size w w' := by
  have s1 := Lib.hid (fun W0 => size_any p W0 hp.1 hp.2)
  have s2 := Lib.hid (fun W0 => size_any q W0 hq.1 hq.2)
  have a1 := sz_nonneg p
  have a2 := sz_le hp.1 hp.2
  have b1 := sz_nonneg q
  have b2 := sz_le hq.1 hq.2
  have gg := Lib.hid (fun W0 => gcd_any (sz p) (sz q) W0 a1 (by omega) b1 (by omega))
  have g0 := gcd_pos (p := p) (q := q) (by omega)
  have g1 : (Int.gcd p q : Int) < 9223372036854775808 := by
    have := Int.gcd_le_natAbs_right (a := p) (b := q) (by omega)
    have := hq.2
    omega
  rw [gcd_sz] at gg
  have t1 := Lib.hid (low_tdiv h0 hp)
  have t2 := Lib.hid (low_tdivq (p := p) h0 hq)
  clear hp hq h0
  generalize (Int.gcd p q : Int) = g at *
  have hn : ¬ g = 0 := by omega
  have hg0 : (0 : Int) ≤ g := by omega
  go_enter Try.func64, Try.ntmps64
  go_wp2_with fail
  refine (s1.out _).mono ?_
  rintro e w1 ⟨rfl, rfl⟩
  go_wp2_with fail
  refine (s2.out _).mono ?_
  rintro e w1 ⟨rfl, rfl⟩
  go_wp2_with fail
  refine (gg.out _).mono ?_
  rintro e w1 ⟨rfl, n, rfl⟩
  go_wp2
  go_region
  rw [t1.out, t2.out]
  go_wp2
  exact bodyPost_ret (v := RV (lowP p q) (lowQ p q)) (by simp [results, Try.results64, go_sem]) rfl ⟨rfl, Z2j0⟩

/-- What is below one of two products of small numbers. -/
theorem small_mul {a b : Int} (h1 : -1073741824 < a) (h2 : a < 1073741824) (h3 : -1073741824 < b) (h4 : b < 1073741824) : -1152921504606846976 < a * b ∧ a * b < 1152921504606846976 := by
  have ha : a.natAbs ≤ 1073741823 := by omega
  have hb : b.natAbs ≤ 1073741823 := by omega
  have := Nat.mul_le_mul ha hb
  rw [← Int.natAbs_mul] at this
  omega

theorem lowP_in {p q : Int} (hp : In64 p) (h0 : 0 < q) : In64 (lowP p q) := by
  rw [← low_tdiv h0 hp]
  unfold wrap64 In64
  omega
theorem lowQ_in {p q : Int} (hp : In64 q) (h0 : 0 < q) : In64 (lowQ p q) := by
  rw [← low_tdivq h0 hp]
  unfold wrap64 In64
  omega
theorem mk_small {p q : Int} (hp : In64 p) (hq : In64 q) (h0 : 0 < q) : mk p q = (lowP p q, lowQ p q, true) := by
  unfold mk
  rw [if_neg (by omega), if_pos ⟨lowP_in hp h0, lowQ_in hq h0⟩]

theorem sum_wrong (p q r s : Int) (t : Bool) (w : World) (h : ¬ (0 < q ∧ 0 < s)) :
    Calls Try.prog 61 #[RV p q, RV r s, .bool t] w fun e w' => e = .returned (RB (0, 0, false)) ∧ Below w.heap.size w w' := by
  by_cases hq : 0 < q
  · have hs : ¬ 0 < s := fun k => h ⟨hq, k⟩
    have e1 : decide (0 < q) = true := decide_eq_true hq
    have e2 : decide (0 < s) = false := decide_eq_false hs
    clear h hq hs
    go_enter Try.func61, Try.ntmps61
    go_wp2_with fail
    refine (right_any _ _ _).mono ?_
    rintro e w1 ⟨rfl, rfl⟩
    rw [e1]
    go_wp2_with fail
    refine (right_any _ _ _).mono ?_
    rintro e w1 ⟨rfl, rfl⟩
    rw [e2]
    go_wp2
    exact bodyPost_ret (v := RB (0, 0, false)) (by simp [results, Try.results61, go_sem, RB]) rfl ⟨rfl, Z2j0⟩
  · have e1 : decide (0 < q) = false := decide_eq_false hq
    clear h hq
    go_enter Try.func61, Try.ntmps61
    go_wp2_with fail
    refine (right_any _ _ _).mono ?_
    rintro e w1 ⟨rfl, rfl⟩
    rw [e1]
    go_wp2
    exact bodyPost_ret (v := RB (0, 0, false)) (by simp [results, Try.results61, go_sem, RB]) rfl ⟨rfl, Z2j0⟩

/-- p/q and r/s, added, or taken away: above q * s. -/
def top (p q r s : Int) (t : Bool) : Int := if t = true then p * s - r * q else p * s + r * q

theorem sum_small (p q r s : Int) (t : Bool) (w : World) (hq : 0 < q) (hs : 0 < s) (k1 : smallB p q = true) (k2 : smallB r s = true) :
    Calls Try.prog 61 #[RV p q, RV r s, .bool t] w fun e w' => e = .returned (RB (mk (top p q r s t) (q * s))) ∧ Below w.heap.size w w' := by
  have c1 := of_decide_eq_true k1
  have c2 := of_decide_eq_true k2
  have m1 := small_mul (a := p) (b := s) (by omega) (by omega) (by omega) (by omega)
  have m2 := small_mul (a := r) (b := q) (by omega) (by omega) (by omega) (by omega)
  have m3 := small_mul (a := q) (b := s) (by omega) (by omega) (by omega) (by omega)
  have m4 := Int.mul_pos hq hs
  have e1 : decide (0 < q) = true := decide_eq_true hq
  have e2 : decide (0 < s) = true := decide_eq_true hs
  have w1 : wrap64 (p * s) = p * s := by unfold wrap64; omega
  have w2 : wrap64 (r * q) = r * q := by unfold wrap64; omega
  have w3 : wrap64 (q * s) = q * s := by unfold wrap64; omega
  have w4 : wrap64 (p * s - r * q) = p * s - r * q := by unfold wrap64; omega
  have w5 : wrap64 (p * s + r * q) = p * s + r * q := by unfold wrap64; omega
  have hD : In64 (q * s) := ⟨by omega, by omega⟩
  have hN : In64 (top p q r s t) := by unfold top; split <;> exact ⟨by omega, by omega⟩
  have low := Lib.hid (fun W0 => lowest_any (top p q r s t) (q * s) W0 hN hD m4)
  rw [mk_small hN hD m4]
  clear c1 c2 m1 m2 m3 m4 hq hs hD hN
  cases t
  · simp only [top, Bool.false_eq_true, if_false] at low ⊢
    go_enter Try.func61, Try.ntmps61
    go_wp2_with fail
    refine (right_any _ _ _).mono ?_
    rintro e w1 ⟨rfl, rfl⟩
    rw [e1]
    go_wp2_with fail
    refine (right_any _ _ _).mono ?_
    rintro e w1 ⟨rfl, rfl⟩
    rw [e2]
    go_wp2_with fail
    refine (small_any _ _ _).mono ?_
    rintro e w1 ⟨rfl, rfl⟩
    rw [k1]
    go_wp2_with fail
    refine (small_any _ _ _).mono ?_
    rintro e w1 ⟨rfl, rfl⟩
    rw [k2]
    go_wp2_with fail
    refine (small_any _ _ _).mono ?_
    rintro e w1 ⟨rfl, rfl⟩
    rw [k1]
    go_wp2_with fail
    refine (small_any _ _ _).mono ?_
    rintro e w1 ⟨rfl, rfl⟩
    rw [k2]
    go_wp2_with fail
    refine (low.out _).mono ?_
    rintro e w1 ⟨rfl, hb1⟩
    obtain ⟨g1, g2, g3⟩ := bgrow hb1
    have hbw : Below w.heap.size w w1 := by refine Below.trans ?_ (hb1.mono Z2j1); exact Z2j0
    have z0 : w1.cell? ⟨w.heap.size + 1 + 1 + 1, 0, none⟩ = some (.int .i64 0) := by rw [g1 _ _ Z2j1]; simp [go_sem]
    have z1 : w1.cell? ⟨w.heap.size + 1 + 1 + 1, 1, none⟩ = some (.int .i64 0) := by rw [g1 _ _ Z2j1]; simp [go_sem]
    go_wp2
    exact bodyPost_ret (v := RB (lowP (p * s + r * q) (q * s), lowQ (p * s + r * q) (q * s), true)) (by simp [results, Try.results61, go_sem, RB, z0, z1]) rfl ⟨rfl, Z2j0⟩
  · simp only [top, if_true] at low ⊢
    go_enter Try.func61, Try.ntmps61
    go_wp2_with fail
    refine (right_any _ _ _).mono ?_
    rintro e w1 ⟨rfl, rfl⟩
    rw [e1]
    go_wp2_with fail
    refine (right_any _ _ _).mono ?_
    rintro e w1 ⟨rfl, rfl⟩
    rw [e2]
    go_wp2_with fail
    refine (small_any _ _ _).mono ?_
    rintro e w1 ⟨rfl, rfl⟩
    rw [k1]
    go_wp2_with fail
    refine (small_any _ _ _).mono ?_
    rintro e w1 ⟨rfl, rfl⟩
    rw [k2]
    go_wp2_with fail
    refine (low.out _).mono ?_
    rintro e w1 ⟨rfl, hb1⟩
    obtain ⟨g1, g2, g3⟩ := bgrow hb1
    have hbw : Below w.heap.size w w1 := by refine Below.trans ?_ (hb1.mono Z2j1); exact Z2j0
    have z0 : w1.cell? ⟨w.heap.size + 1 + 1 + 1, 0, none⟩ = some (.int .i64 0) := by rw [g1 _ _ Z2j1]; simp [go_sem]
    have z1 : w1.cell? ⟨w.heap.size + 1 + 1 + 1, 1, none⟩ = some (.int .i64 0) := by rw [g1 _ _ Z2j1]; simp [go_sem]
    go_wp2
    exact bodyPost_ret (v := RB (lowP (p * s - r * q) (q * s), lowQ (p * s - r * q) (q * s), true)) (by simp [results, Try.results61, go_sem, RB, z0, z1]) rfl ⟨rfl, Z2j0⟩
end Go.Proofs.Ytdkbnbebioflaaa.Num
