import Derived.Test.YtbpjnkeilhfajaaGreatNumE
import Derived.Shelf.Small.Bits
import Derived.Shelf.Strconv.Itoa0
import Derived.Shelf.Bits.Mul64
import Derived.Test.YtbpjnkeilhfajaaGreatProg
section
/- Contracts of num: small, lowest. -/
namespace Go.Proofs
theorem Z2n0 {p : Prop} (h : p := by repeat (first | exact Below.refl _ _ | with_reducible assumption | refine Below.alloc ?_ (by first | exact Nat.le_refl _ | (simp; done) | (simp; omega) | omega) _ | refine Below.setCell ?_ (by first | exact Nat.le_refl _ | (simp; done) | (simp; omega) | omega) _ | refine Below.drew ?_ | refine bdrewN ?_ _)) : p := h
theorem Z2n1 {p : Prop} (h : p := by first | exact Nat.le_refl _ | (simp; done) | (simp; omega) | omega) : p := h
end Go.Proofs
namespace Go.Proofs.YtbpjnkeilhfajaaGreat.Num
open Go.RowKit
set_option linter.unusedVariables false
set_option linter.unusedSimpArgs false
def smallB (p q : Int) : Bool := decide (p < 1073741824 ∧ -1073741824 < p ∧ q < 1073741824)
theorem small_any (p q : Int) (w : World) :
  Calls Tryz.prog 116 #[RV p q] w fun e w' => e = .returned (.bool (smallB p q)) ∧ w' = w.alloc (.cells #[.int .i64 p, .int .i64 q] 28) := by
 unfold smallB
 by_cases h1 : p < 1073741824
 ·have e1 : decide (p < 1073741824) = true := decide_eq_true h1
  by_cases h2 : -1073741824 < p
  ·have e2 : decide (-1073741824 < p) = true := decide_eq_true h2
   have hf : decide (p < 1073741824 ∧ -1073741824 < p ∧ q < 1073741824) = decide (q < 1073741824) := by simp [h1, h2]
   rw [hf]
   clear hf
   go_enter Tryz.func116, Tryz.ntmps116
   go_wp2
   go_ret
   exact ⟨rfl, rfl⟩
  ·have e2 : decide (-1073741824 < p) = false := decide_eq_false h2
   have hf : decide (p < 1073741824 ∧ -1073741824 < p ∧ q < 1073741824) = false := decide_eq_false (fun h => h2 h.2.1)
   rw [hf]
   clear hf
   go_enter Tryz.func116, Tryz.ntmps116
   go_wp2
   go_ret
   exact ⟨rfl, rfl⟩
 ·have e1 : decide (p < 1073741824) = false := decide_eq_false h1
  have hf : decide (p < 1073741824 ∧ -1073741824 < p ∧ q < 1073741824) = false := decide_eq_false (fun h => h1 h.1)
  rw [hf]
  clear hf
  go_enter Tryz.func116, Tryz.ntmps116
  go_wp2
  go_ret
  exact ⟨rfl, rfl⟩
theorem low_tdiv {p q : Int} (hq : 0 < q) (hp : In64 p) : wrap64 (p.tdiv (Int.gcd p q)) = lowP p q := by
 have g0 := gcd_pos (p := p) (q := q) (by omega)
 obtain ⟨h1, h2⟩ := hp
 unfold lowP sg sz
 by_cases hn : p < 0
 ·have e : Int.tdiv p (Int.gcd p q) = -((-p) / (Int.gcd p q : Int)) := by
   rw [← Int.tdiv_eq_ediv_of_nonneg (by omega), Int.neg_tdiv, Int.neg_neg]
  rw [e]
  have k1 := Int.ediv_nonneg (a := -p) (by omega) (Int.le_of_lt g0)
  have k2 := Int.ediv_le_self (a := -p) (Int.gcd p q : Int) (by omega)
  simp [hn, show ¬ q < 0 from by omega]
  unfold wrap64
  omega
 ·rw [Int.tdiv_eq_ediv_of_nonneg (by omega)]
  have k1 := Int.ediv_nonneg (a := p) (by omega) (Int.le_of_lt g0)
  have k2 := Int.ediv_le_self (a := p) (Int.gcd p q : Int) (by omega)
  simp [hn, show ¬ q < 0 from by omega]
  unfold wrap64
  omega
theorem low_tdivq {p q : Int} (hq : 0 < q) (hp : In64 q) : wrap64 (q.tdiv (Int.gcd p q)) = lowQ p q := by
 have g0 := gcd_pos (p := p) (q := q) (by omega)
 obtain ⟨h1, h2⟩ := hp
 unfold lowQ sz
 rw [Int.tdiv_eq_ediv_of_nonneg (by omega)]
 have k1 := Int.ediv_nonneg (a := q) (by omega) (Int.le_of_lt g0)
 have k2 := Int.ediv_le_self (a := q) (Int.gcd p q : Int) (by omega)
 simp [show ¬ q < 0 from by omega]
 unfold wrap64
 omega
theorem lowest_any (p q : Int) (w : World) (hp : In64 p) (hq : In64 q) (h0 : 0 < q) :
  Calls Tryz.prog 117 #[.int .i64 p, .int .i64 q] w fun e w' => e = .returned (RV (lowP p q) (lowQ p q)) ∧ Below w.heap.size w w' := by
 have s1 := Lib.hid (fun W0 => size_any p W0 hp.1 hp.2)
 have s2 := Lib.hid (fun W0 => size_any q W0 hq.1 hq.2)
 have a1 := sz_nonneg p
 have a2 := sz_le hp.1 hp.2
 have b1 := sz_nonneg q
 have b2 := sz_le hq.1 hq.2
 have gg := Lib.hid (fun W0 => gcd_any (sz p) (sz q) W0 a1 (by omega) b1 (by omega))
 have g0 := gcd_pos (p := p) (q := q) (by omega)
 have g1 : (Int.gcd p q : Int) < 9223372036854775808 := by
  have := Int.gcd_le_natAbs_right (a := p) (b := q) (by omega)
  have := hq.2
  omega
 rw [gcd_sz] at gg
 have t1 := Lib.hid (low_tdiv h0 hp)
 have t2 := Lib.hid (low_tdivq (p := p) h0 hq)
 clear hp hq h0
 generalize (Int.gcd p q : Int) = g at *
 have hn : ¬ g = 0 := by omega
 have hg0 : (0 : Int) ≤ g := by omega
 go_enter Tryz.func117, Tryz.ntmps117
 go_wp2_with fail
 refine (s1.out _).mono ?_
 rintro e w1 ⟨rfl, rfl⟩
 go_wp2_with fail
 refine (s2.out _).mono ?_
 rintro e w1 ⟨rfl, rfl⟩
 go_wp2_with fail
 refine (gg.out _).mono ?_
 rintro e w1 ⟨rfl, n, rfl⟩
 go_wp2
 go_region
 rw [t1.out, t2.out]
 go_wp2
 exact bodyPost_ret (v := RV (lowP p q) (lowQ p q)) (by simp [results, Tryz.results117, go_sem]) rfl ⟨rfl, Z2n0⟩
theorem small_mul {a b : Int} (h1 : -1073741824 < a) (h2 : a < 1073741824) (h3 : -1073741824 < b) (h4 : b < 1073741824) : -1152921504606846976 < a * b ∧ a * b < 1152921504606846976 := by
 have ha : a.natAbs ≤ 1073741823 := by omega
 have hb : b.natAbs ≤ 1073741823 := by omega
 have := Nat.mul_le_mul ha hb
 rw [← Int.natAbs_mul] at this
 omega
theorem lowP_in {p q : Int} (hp : In64 p) (h0 : 0 < q) : In64 (lowP p q) := by
 rw [← low_tdiv h0 hp]
 unfold wrap64 In64
 omega
theorem lowQ_in {p q : Int} (hp : In64 q) (h0 : 0 < q) : In64 (lowQ p q) := by
 rw [← low_tdivq h0 hp]
 unfold wrap64 In64
 omega
theorem mk_small {p q : Int} (hp : In64 p) (hq : In64 q) (h0 : 0 < q) : mk p q = (lowP p q, lowQ p q, true) := by
 unfold mk
 rw [if_neg (by omega), if_pos ⟨lowP_in hp h0, lowQ_in hq h0⟩]
theorem sum_wrong (p q r s : Int) (t : Bool) (w : World) (h : ¬ (0 < q ∧ 0 < s)) :
  Calls Tryz.prog 115 #[RV p q, RV r s, .bool t] w fun e w' => e = .returned (RB (0, 0, false)) ∧ Below w.heap.size w w' := by
 by_cases hq : 0 < q
 ·have hs : ¬ 0 < s := fun k => h ⟨hq, k⟩
  have e1 : decide (0 < q) = true := decide_eq_true hq
  have e2 : decide (0 < s) = false := decide_eq_false hs
  clear h hq hs
  go_enter Tryz.func115, Tryz.ntmps115
  go_wp2_with fail
  refine (right_any _ _ _).mono ?_
  rintro e w1 ⟨rfl, rfl⟩
  rw [e1]
  go_wp2_with fail
  refine (right_any _ _ _).mono ?_
  rintro e w1 ⟨rfl, rfl⟩
  rw [e2]
  go_wp2
  exact bodyPost_ret (v := RB (0, 0, false)) (by simp [results, Tryz.results115, go_sem, RB]) rfl ⟨rfl, Z2n0⟩
 ·have e1 : decide (0 < q) = false := decide_eq_false hq
  clear h hq
  go_enter Tryz.func115, Tryz.ntmps115
  go_wp2_with fail
  refine (right_any _ _ _).mono ?_
  rintro e w1 ⟨rfl, rfl⟩
  rw [e1]
  go_wp2
  exact bodyPost_ret (v := RB (0, 0, false)) (by simp [results, Tryz.results115, go_sem, RB]) rfl ⟨rfl, Z2n0⟩
def top (p q r s : Int) (t : Bool) : Int := if t = true then p * s - r * q else p * s + r * q
theorem sum_small (p q r s : Int) (t : Bool) (w : World) (hq : 0 < q) (hs : 0 < s) (k1 : smallB p q = true) (k2 : smallB r s = true) :
  Calls Tryz.prog 115 #[RV p q, RV r s, .bool t] w fun e w' => e = .returned (RB (mk (top p q r s t) (q * s))) ∧ Below w.heap.size w w' := by
 have c1 := of_decide_eq_true k1
 have c2 := of_decide_eq_true k2
 have m1 := small_mul (a := p) (b := s) (by omega) (by omega) (by omega) (by omega)
 have m2 := small_mul (a := r) (b := q) (by omega) (by omega) (by omega) (by omega)
 have m3 := small_mul (a := q) (b := s) (by omega) (by omega) (by omega) (by omega)
 have m4 := Int.mul_pos hq hs
 have e1 : decide (0 < q) = true := decide_eq_true hq
 have e2 : decide (0 < s) = true := decide_eq_true hs
 have w1 : wrap64 (p * s) = p * s := by unfold wrap64; omega
 have w2 : wrap64 (r * q) = r * q := by unfold wrap64; omega
 have w3 : wrap64 (q * s) = q * s := by unfold wrap64; omega
 have w4 : wrap64 (p * s - r * q) = p * s - r * q := by unfold wrap64; omega
 have w5 : wrap64 (p * s + r * q) = p * s + r * q := by unfold wrap64; omega
 have hD : In64 (q * s) := ⟨by omega, by omega⟩
 have hN : In64 (top p q r s t) := by unfold top; split <;> exact ⟨by omega, by omega⟩
 have low := Lib.hid (fun W0 => lowest_any (top p q r s t) (q * s) W0 hN hD m4)
 rw [mk_small hN hD m4]
 clear c1 c2 m1 m2 m3 m4 hq hs hD hN
 cases t
 ·simp only [top, Bool.false_eq_true, if_false] at low ⊢
  go_enter Tryz.func115, Tryz.ntmps115
  go_wp2_with fail
  refine (right_any _ _ _).mono ?_
  rintro e w1 ⟨rfl, rfl⟩
  rw [e1]
  go_wp2_with fail
  refine (right_any _ _ _).mono ?_
  rintro e w1 ⟨rfl, rfl⟩
  rw [e2]
  go_wp2_with fail
  refine (small_any _ _ _).mono ?_
  rintro e w1 ⟨rfl, rfl⟩
  rw [k1]
  go_wp2_with fail
  refine (small_any _ _ _).mono ?_
  rintro e w1 ⟨rfl, rfl⟩
  rw [k2]
  go_wp2_with fail
  refine (small_any _ _ _).mono ?_
  rintro e w1 ⟨rfl, rfl⟩
  rw [k1]
  go_wp2_with fail
  refine (small_any _ _ _).mono ?_
  rintro e w1 ⟨rfl, rfl⟩
  rw [k2]
  go_wp2_with fail
  refine (low.out _).mono ?_
  rintro e w1 ⟨rfl, hb1⟩
  obtain ⟨g1, g2, g3⟩ := bgrow hb1
  have hbw : Below w.heap.size w w1 := by refine Below.trans ?_ (hb1.mono Z2n1); exact Z2n0
  have z0 : w1.cell? ⟨w.heap.size + 1 + 1 + 1, 0, none⟩ = some (.int .i64 0) := by rw [g1 _ _ Z2n1]; simp [go_sem]
  have z1 : w1.cell? ⟨w.heap.size + 1 + 1 + 1, 1, none⟩ = some (.int .i64 0) := by rw [g1 _ _ Z2n1]; simp [go_sem]
  go_wp2
  exact bodyPost_ret (v := RB (lowP (p * s + r * q) (q * s), lowQ (p * s + r * q) (q * s), true)) (by simp [results, Tryz.results115, go_sem, RB, z0, z1]) rfl ⟨rfl, Z2n0⟩
 ·simp only [top, if_true] at low ⊢
  go_enter Tryz.func115, Tryz.ntmps115
  go_wp2_with fail
  refine (right_any _ _ _).mono ?_
  rintro e w1 ⟨rfl, rfl⟩
  rw [e1]
  go_wp2_with fail
  refine (right_any _ _ _).mono ?_
  rintro e w1 ⟨rfl, rfl⟩
  rw [e2]
  go_wp2_with fail
  refine (small_any _ _ _).mono ?_
  rintro e w1 ⟨rfl, rfl⟩
  rw [k1]
  go_wp2_with fail
  refine (small_any _ _ _).mono ?_
  rintro e w1 ⟨rfl, rfl⟩
  rw [k2]
  go_wp2_with fail
  refine (low.out _).mono ?_
  rintro e w1 ⟨rfl, hb1⟩
  obtain ⟨g1, g2, g3⟩ := bgrow hb1
  have hbw : Below w.heap.size w w1 := by refine Below.trans ?_ (hb1.mono Z2n1); exact Z2n0
  have z0 : w1.cell? ⟨w.heap.size + 1 + 1 + 1, 0, none⟩ = some (.int .i64 0) := by rw [g1 _ _ Z2n1]; simp [go_sem]
  have z1 : w1.cell? ⟨w.heap.size + 1 + 1 + 1, 1, none⟩ = some (.int .i64 0) := by rw [g1 _ _ Z2n1]; simp [go_sem]
  go_wp2
  exact bodyPost_ret (v := RB (lowP (p * s - r * q) (q * s), lowQ (p * s - r * q) (q * s), true)) (by simp [results, Tryz.results115, go_sem, RB, z0, z1]) rfl ⟨rfl, Z2n0⟩
end Go.Proofs.YtbpjnkeilhfajaaGreat.Num
end

section
/- Contracts of num: Plus and Minus, from what sum answers. -/
namespace Go.Proofs
theorem Z2z0 {p : Prop} (h : p := by first | exact Nat.le_refl _ | (simp; done) | (simp; omega) | omega) : p := h
theorem Z2z1 {p : Prop} (h : p := by repeat (first | exact Below.refl _ _ | with_reducible assumption | refine Below.alloc ?_ (by first | exact Nat.le_refl _ | (simp; done) | (simp; omega) | omega) _ | refine Below.setCell ?_ (by first | exact Nat.le_refl _ | (simp; done) | (simp; omega) | omega) _ | refine Below.drew ?_ | refine bdrewN ?_ _)) : p := h
end Go.Proofs
namespace Go.Proofs.YtbpjnkeilhfajaaGreat.Num
open Go.RowKit
set_option linter.unusedVariables false
set_option linter.unusedSimpArgs false
theorem Plus_of (p q r s : Int) (z : Int × Int × Bool) (w : World) (h : ∀ W, Calls Tryz.prog 115 #[RV p q, RV r s, .bool false] W fun e w' => e = .returned (RB z) ∧ Below W.heap.size W w') :
  Calls Tryz.prog 86 #[RV p q, RV r s] w fun e w' => e = .returned (RB z) ∧ Below w.heap.size w w' := by
 have H := Lib.hid h
 clear h
 obtain ⟨x, y, b⟩ := z
 go_enter Tryz.func86, Tryz.ntmps86
 go_wp2_with fail
 refine (H.out _).mono ?_
 rintro e w1 ⟨rfl, hb1⟩
 obtain ⟨g1, g2, g3⟩ := bgrow hb1
 have hbw : Below w.heap.size w w1 := by refine Below.trans ?_ (hb1.mono Z2z0); exact Z2z1
 have z0 : w1.cell? ⟨w.heap.size + 1 + 1, 0, none⟩ = some (.int .i64 0) := by rw [g1 _ _ Z2z0]; simp [go_sem]
 have z1 : w1.cell? ⟨w.heap.size + 1 + 1, 1, none⟩ = some (.int .i64 0) := by rw [g1 _ _ Z2z0]; simp [go_sem]
 go_wp2
 exact bodyPost_ret (v := RB (x, y, b)) (by simp [results, Tryz.results86, go_sem, z0, z1]) rfl ⟨rfl, Z2z1⟩
theorem Minus_of (p q r s : Int) (z : Int × Int × Bool) (w : World) (h : ∀ W, Calls Tryz.prog 115 #[RV p q, RV r s, .bool true] W fun e w' => e = .returned (RB z) ∧ Below W.heap.size W w') :
  Calls Tryz.prog 98 #[RV p q, RV r s] w fun e w' => e = .returned (RB z) ∧ Below w.heap.size w w' := by
 have H := Lib.hid h
 clear h
 obtain ⟨x, y, b⟩ := z
 go_enter Tryz.func98, Tryz.ntmps98
 go_wp2_with fail
 refine (H.out _).mono ?_
 rintro e w1 ⟨rfl, hb1⟩
 obtain ⟨g1, g2, g3⟩ := bgrow hb1
 have hbw : Below w.heap.size w w1 := by refine Below.trans ?_ (hb1.mono Z2z0); exact Z2z1
 have z0 : w1.cell? ⟨w.heap.size + 1 + 1, 0, none⟩ = some (.int .i64 0) := by rw [g1 _ _ Z2z0]; simp [go_sem]
 have z1 : w1.cell? ⟨w.heap.size + 1 + 1, 1, none⟩ = some (.int .i64 0) := by rw [g1 _ _ Z2z0]; simp [go_sem]
 go_wp2
 exact bodyPost_ret (v := RB (x, y, b)) (by simp [results, Tryz.results98, go_sem, z0, z1]) rfl ⟨rfl, Z2z1⟩
theorem cell_lt {W : World} {b o : Nat} {v : Value} (h : W.cell? ⟨b, o, none⟩ = some v) : b < W.heap.size := by
 by_cases hlt : b < W.heap.size
 ·exact hlt
 ·rw [World.cell?, Array.getElem?_eq_none (Nat.not_lt.1 hlt)] at h
  simp at h
end Go.Proofs.YtbpjnkeilhfajaaGreat.Num
end

section
/- The contracts of num's functions, in the form in which a printed text meets a callee: plain ones. -/
namespace Go.Proofs.YtbpjnkeilhfajaaGreat.Given
open Go.RowKit Go.Proofs.YtbpjnkeilhfajaaGreat.Num
def num_Make.f (a0 a1 : Int) : Option (Int × Int × Bool) := if In64 a0 ∧ In64 a1 then some (mk a0 a1) else none
theorem num_Make.calls (a0 a1 : Int) (r1 r2 : Int) (r3 : Bool) (w : World) (h : num_Make.f a0 a1 = some (r1, r2, r3)) :
  Calls Tryz.prog 24 #[.int .i64 a0, .int .i64 a1] w fun e w' => e = .returned (.tuple #[.agg #[.int .i64 r1, .int .i64 r2], .bool r3]) ∧ Below w.heap.size w w' := by
 unfold num_Make.f at h
 split at h
 ·rename_i hd
  have := Make_any a0 a1 w hd.1 hd.2
  rw [Option.some.inj h] at this
  exact this
 ·cases h
def num_Add.f (a0 a1 : Int) : Option (Int × Bool) := if In64 a0 ∧ In64 a1 then some (fitp (a0 + a1)) else none
theorem num_Add.calls (a0 a1 : Int) (r1 : Int) (r2 : Bool) (w : World) (h : num_Add.f a0 a1 = some (r1, r2)) :
  Calls Tryz.prog 94 #[.int .i64 a0, .int .i64 a1] w fun e w' => e = .returned (.tuple #[.int .i64 r1, .bool r2]) ∧ Below w.heap.size w w' := by
 unfold num_Add.f at h
 split at h
 ·rename_i hd
  have := Add_any a0 a1 w hd.1 hd.2
  rw [Option.some.inj h] at this
  exact this
 ·cases h
def num_Sub.f (a0 a1 : Int) : Option (Int × Bool) := if In64 a0 ∧ In64 a1 then some (fitp (a0 - a1)) else none
def num_Mul.f (a0 a1 : Int) : Option (Int × Bool) := if In64 a0 ∧ In64 a1 then some (fitp (a0 * a1)) else none
theorem num_Mul.calls (a0 a1 : Int) (r1 : Int) (r2 : Bool) (w : World) (h : num_Mul.f a0 a1 = some (r1, r2)) :
  Calls Tryz.prog 95 #[.int .i64 a0, .int .i64 a1] w fun e w' => e = .returned (.tuple #[.int .i64 r1, .bool r2]) ∧ Below w.heap.size w w' := by
 unfold num_Mul.f at h
 split at h
 ·rename_i hd
  have := Mul_any a0 a1 w hd.1 hd.2
  rw [Option.some.inj h] at this
  exact this
 ·cases h
def num_Neg.f (a0 : Int) : Option (Int × Bool) := if In64 a0 then some (fitp (-a0)) else none
theorem num_Neg.calls (a0 : Int) (r1 : Int) (r2 : Bool) (w : World) (h : num_Neg.f a0 = some (r1, r2)) :
  Calls Tryz.prog 79 #[.int .i64 a0] w fun e w' => e = .returned (.tuple #[.int .i64 r1, .bool r2]) ∧ Below w.heap.size w w' := by
 unfold num_Neg.f at h
 split at h
 ·rename_i hd
  have := Neg_any a0 w hd
  rw [Option.some.inj h] at this
  exact this
 ·cases h
def num_Gcd.f (a0 a1 : Int) : Option (Int × Bool) := if In64 a0 ∧ In64 a1 then some (fitp (Int.gcd a0 a1)) else none
theorem num_Gcd.calls (a0 a1 : Int) (r1 : Int) (r2 : Bool) (w : World) (h : num_Gcd.f a0 a1 = some (r1, r2)) :
  Calls Tryz.prog 99 #[.int .i64 a0, .int .i64 a1] w fun e w' => e = .returned (.tuple #[.int .i64 r1, .bool r2]) ∧ Below w.heap.size w w' := by
 unfold num_Gcd.f at h
 split at h
 ·rename_i hd
  have := Gcd_any a0 a1 w hd.1 hd.2
  rw [Option.some.inj h] at this
  exact this
 ·cases h
def num_Rat_Cmp.f (a0_0 a0_1 a1_0 a1_1 : Int) : Option Int := if In64 a0_0 ∧ In64 a0_1 ∧ In64 a1_0 ∧ In64 a1_1 then some (cmpI (a0_0 * a1_1 - a1_0 * a0_1)) else none
theorem num_Rat_Cmp.calls (a0_0 a0_1 a1_0 a1_1 : Int) (r : Int) (w : World) (h : num_Rat_Cmp.f a0_0 a0_1 a1_0 a1_1 = some r) :
  Calls Tryz.prog 25 #[.agg #[.int .i64 a0_0, .int .i64 a0_1], .agg #[.int .i64 a1_0, .int .i64 a1_1]] w fun e w' => e = .returned (.int .i64 r) ∧ Below w.heap.size w w' := by
 unfold num_Rat_Cmp.f at h
 split at h
 ·rename_i hd
  have := Cmp_any a0_0 a0_1 a1_0 a1_1 w hd.1 hd.2.1 hd.2.2.1 hd.2.2.2
  rw [Option.some.inj h] at this
  exact this
 ·cases h
end Go.Proofs.YtbpjnkeilhfajaaGreat.Given
end

section
/-
  DERIVED: THE SHELF's CONTRACTS AT THIS DUMP, IN PLAIN WORDS (tools/lay-plain.mjs out of 'TryzShelf.lean', which tools/lay-shelf.mjs wrote): THE SAME DECLARATIONS UNDER THE SAME NAMES: 'import', 'namespace', 'open', 'def', 'theorem' AND NOTHING ELSE: no command of the shelf's: FOR A HAND-IN. Each laying: the table of numbers ('.._ren') and one theorem, a field a fact of the dump's own or the kernel's comparison; each contract: ONE APPLICATION.
-/
namespace Go.Proofs
open Go.Shelf
def Tryz.lays134_ren : Go.Shelf.Ren := ⟨fun | 134 => 137 | 129 => 138 | n => n, fun | 53 => 78 | 3 => 3 | 4 => 4 | 46 => 133 | 5 => 5 | 9 => 9 | n => n, fun | n => n⟩
theorem Tryz.lays134 : Go.Proofs.Lays.n134 Tryz.prog Tryz.lays134_ren := {
 mixed := by kernel_rfl
 f129 := Tryz.func138.trans (congrArg some (by kernel_rfl))
 f134 := Tryz.func137.trans (congrArg some (by kernel_rfl))
 t3 := Tryz.underlying3
 a3 := Tryz.isAgg3
 z3 := Tryz.sizeOf3
 v3 := Tryz.zeroValue3
 t4 := Tryz.underlying4
 a4 := Tryz.isAgg4
 z4 := Tryz.sizeOf4
 v4 := Tryz.zeroValue4
 t5 := Tryz.underlying5
 a5 := Tryz.isAgg5
 z5 := Tryz.sizeOf5
 v5 := Tryz.zeroValue5
 t9 := Tryz.underlying9
 a9 := Tryz.isAgg9
 z9 := Tryz.sizeOf9
 v9 := Tryz.zeroValue9
 t46 := Tryz.underlying133
 a46 := Tryz.isAgg133
 z46 := Tryz.sizeOf133
 v46 := Tryz.zeroValue133
 t53 := Tryz.underlying78
 a53 := Tryz.isAgg78
 z53 := Tryz.sizeOf78
 v53 := Tryz.zeroValue78 }
theorem Tryz.bits_LeadingZeros64 (x : Int) (w : World) (h0 : 0 ≤ x) (h1 : x ≤ 18446744073709551615) :
  Calls Tryz.prog 137 #[.int .u64 x] w fun e w' => e = .returned (.int .i64 (64 - (Lib.bitLen x.toNat : Int))) ∧ w' = w := Any.bits_LeadingZeros64 Tryz.lays134 x w h0 h1
def Tryz.lays212_ren : Go.Shelf.Ren := ⟨fun | 212 => 123 | 263 => 134 | 264 => 104 | n => n, fun | 46 => 133 | 51 => 143 | 146 => 144 | 53 => 78 | 148 => 116 | n => n, fun | n => n⟩
theorem Tryz.lays212 : Go.Proofs.Lays.n212 Tryz.prog Tryz.lays212_ren := {
 mixed := by kernel_rfl
 f212 := Tryz.func123.trans (congrArg some (by kernel_rfl))
 f263 := Tryz.func134.trans (congrArg some (by kernel_rfl))
 f264 := Tryz.func104.trans (congrArg some (by kernel_rfl))
 t46 := Tryz.underlying133
 a46 := Tryz.isAgg133
 z46 := Tryz.sizeOf133
 v46 := Tryz.zeroValue133
 t51 := Tryz.underlying143
 a51 := Tryz.isAgg143
 z51 := Tryz.sizeOf143
 v51 := Tryz.zeroValue143
 t53 := Tryz.underlying78
 a53 := Tryz.isAgg78
 z53 := Tryz.sizeOf78
 v53 := Tryz.zeroValue78
 t146 := Tryz.underlying144
 a146 := Tryz.isAgg144
 z146 := Tryz.sizeOf144
 v146 := Tryz.zeroValue144
 t148 := Tryz.underlying116
 a148 := Tryz.isAgg116
 z148 := Tryz.sizeOf116
 v148 := Tryz.zeroValue116 }
open Go.RowKit Go.Lib in
theorem Tryz.bits_Mul (x y : Nat) (hx : x < 18446744073709551616) (hy : y < 18446744073709551616) (w : World) :
  Calls Tryz.prog 123 #[.int .u64 x, .int .u64 y] w fun e w' => e = .returned (.tuple #[.int .u64 ((x * y / 18446744073709551616 : Nat) : Int), .int .u64 ((x * y % 18446744073709551616 : Nat) : Int)]) ∧ w' = w := Any.bits_Mul Tryz.lays212 x y hx hy w
end Go.Proofs
end

section
/- math/bits.Div64, Rem64: a number of 128 bits, divided. -/
namespace Go.Proofs.YtbpjnkeilhfajaaGreat.Num
open Go.RowKit
set_option linter.unusedVariables false
set_option linter.unusedSimpArgs false
theorem div64_small (l y : Int) (w : World) (hl : 0 ≤ l) (hl2 : l < 18446744073709551616) (hy : 0 < y) (hy2 : y < 18446744073709551616) :
  Calls Tryz.prog 136 #[.int .u64 0, .int .u64 l, .int .u64 y] w fun e w' => e = .returned (.tuple #[.int .u64 (l / y), .int .u64 (l % y)]) ∧ w' = w.drew := by
 have e1 : (y == 0) = false := beq_eq_false_iff_ne.2 (by omega)
 have e2 : decide (y ≤ 0) = false := decide_eq_false (by omega)
 have hn : ¬ y = 0 := by omega
 have hd := Lib.hid (div_spell hl hl2 hy)
 have hd1 : IntKind.u64.wrap (l.tdiv y) = l / y := hd.out
 have hd2 : l.tmod y = l % y := Int.tmod_eq_emod_of_nonneg hl
 go_enter Tryz.func136, Tryz.ntmps136
 go_wp2
 go_region
 go_wp2
 go_ret2
 exact ⟨rfl, rfl⟩
set_option maxHeartbeats 4000000 in
theorem div64_walk (h l y s : Int) (w : World) (h0 : 0 < h) (hl : 0 ≤ l) (hl2 : l < 18446744073709551616) (hy : h < y) (hy2 : y < 18446744073709551616)
  (hs : 0 ≤ s) (hs2 : s < 64) (hbl : 64 - (Lib.bitLen y.toNat : Int) = s) (Y U L v1 v0 d1 d0 Q1 Q0 u2 qq rr : Int)
  (hYw : IntKind.u64.wrap (y * 2 ^ s.toNat) = Y) (hUw : bits BinOp.or .u64 (IntKind.u64.wrap (h * 2 ^ s.toNat)) (l / 2 ^ (64 - s).toNat) = U) (hLw : IntKind.u64.wrap (l * 2 ^ s.toNat) = L)
  (hv1 : Y / 4294967296 = v1) (hv0 : bits BinOp.and .u64 Y 4294967295 = v0) (hd1 : L / 4294967296 = d1) (hd0 : bits BinOp.and .u64 L 4294967295 = d0)
  (H1 : Half U v1 v0 Y d1 Q1)
  (hu2 : IntKind.u64.wrap (IntKind.u64.wrap (IntKind.u64.wrap (U * 4294967296) + d1) - IntKind.u64.wrap (Q1 * Y)) = u2)
  (H2 : Half u2 v1 v0 Y d0 Q0)
  (kQ1 : 0 ≤ Q1) (kQ1' : Q1 < 4294967296) (kQ0 : 0 ≤ Q0) (kQ0' : Q0 < 4294967296)
  (hqq : Q1 * 4294967296 + Q0 = qq)
  (hrr : IntKind.u64.wrap (IntKind.u64.wrap (IntKind.u64.wrap (u2 * 4294967296) + d0) - IntKind.u64.wrap (Q0 * Y)) / 2 ^ s.toNat = rr) :
  Calls Tryz.prog 136 #[.int .u64 h, .int .u64 l, .int .u64 y] w fun e w' => e = .returned (.tuple #[.int .u64 qq, .int .u64 rr]) ∧ w' = w := by
 have e1 : (y == 0) = false := beq_eq_false_iff_ne.2 (by omega)
 have e2 : decide (y ≤ h) = false := decide_eq_false (by omega)
 have e3 : (h == 0) = false := beq_eq_false_iff_ne.2 (by omega)
 have lz := Lib.hid (fun W0 => Tryz.bits_LeadingZeros64 y W0 (by omega) (by omega))
 rw [hbl] at lz
 have HH1 := Lib.hid H1
 obtain ⟨gY, g1, g1', g0, g0', gu, gu', gd, gd', gQ⟩ := H1
 have z1 : ¬ v1 = 0 := by omega
 have qi : IntKind.u64.wrap (U.tdiv v1) = U / v1 := div_spell gu (by omega) (by omega)
 have qm : IntKind.u64.wrap (U / v1 * v1) = U / v1 * v1 := by
  rw [IntKind.wrap_u64]
  have := Int.mul_ediv_add_emod U v1
  have := Int.emod_nonneg U z1
  have := Int.mul_nonneg (Int.ediv_nonneg gu (show 0 ≤ v1 by omega)) (show 0 ≤ v1 by omega)
  have := Int.mul_comm v1 (U / v1)
  omega
 have ri : IntKind.u64.wrap (U - U / v1 * v1) = U % v1 := by
  rw [IntKind.wrap_u64]
  have := Int.mul_ediv_add_emod U v1
  have := Int.emod_nonneg U z1
  have := Int.emod_lt_of_pos U (show 0 < v1 by omega)
  have := Int.mul_comm v1 (U / v1)
  omega
 have HH2 := Lib.hid H2
 have fu := H2.hu
 have fu' := H2.hu'
 have fd := H2.hd
 have fd' := H2.hd'
 clear H2
 have qi2 : IntKind.u64.wrap (u2.tdiv v1) = u2 / v1 := div_spell fu (by omega) (by omega)
 have qm2 : IntKind.u64.wrap (u2 / v1 * v1) = u2 / v1 * v1 := by
  rw [IntKind.wrap_u64]
  have := Int.mul_ediv_add_emod u2 v1
  have := Int.emod_nonneg u2 z1
  have := Int.mul_nonneg (Int.ediv_nonneg fu (show 0 ≤ v1 by omega)) (show 0 ≤ v1 by omega)
  have := Int.mul_comm v1 (u2 / v1)
  omega
 have ri2 : IntKind.u64.wrap (u2 - u2 / v1 * v1) = u2 % v1 := by
  rw [IntKind.wrap_u64]
  have := Int.mul_ediv_add_emod u2 v1
  have := Int.emod_nonneg u2 z1
  have := Int.emod_lt_of_pos u2 (show 0 < v1 by omega)
  have := Int.mul_comm v1 (u2 / v1)
  omega
 clear hbl gY gQ
 go_enter Tryz.func136, Tryz.ntmps136
 go_wp2_with fail
 refine (lz.out _).mono ?_
 rintro e w' ⟨rfl, rfl⟩
 go_wp2
 go_loop [15, 16] (fun a b => ∃ q r : Int, Hid (HInv U v1 q r Q1) ∧ a = .int .u64 q ∧ b = .int .u64 r) (fun a _ => (intOf a).toNat)
 case atStart => exact ⟨_, _, Lib.hid (half_start HH1.out rfl rfl), rfl, rfl⟩
 case round =>
  obtain ⟨q, r, hi, rfl, rfl⟩ := hrel
  have hi1 := hi.out.1
  have hi2 := hi.out.2.1
  have hi3 := hi.out.2.2.1
  have hi4 := hi.out.2.2.2.1
  by_cases c1 : 4294967296 ≤ q
  ·have k1 : decide (4294967296 ≤ q) = true := decide_eq_true c1
   have m := half_more HH1.out hi.out (.inl c1)
   have m1 := m.1
   have M := Lib.hid m
   clear m
   by_cases c3 : 4294967296 ≤ r + v1
   ·have k3 : decide (4294967296 ≤ r + v1) = true := decide_eq_true c3
    have hq1 : q - 1 = Q1 := M.out.2.2.2 c3
    clear M hi
    go_wp2
    go_loop [18, 16] (fun a b => ∃ q r : Int, Hid (HInv u2 v1 q r Q0) ∧ a = .int .u64 q ∧ b = .int .u64 r) (fun a _ => (intOf a).toNat)
    case atStart => exact ⟨_, _, Lib.hid (half_start HH2.out rfl rfl), rfl, rfl⟩
    case round =>
     obtain ⟨q, r, hi, rfl, rfl⟩ := hrel
     have hi1 := hi.out.1
     have hi2 := hi.out.2.1
     have hi3 := hi.out.2.2.1
     have hi4 := hi.out.2.2.2.1
     by_cases c1 : 4294967296 ≤ q
     ·have k1 : decide (4294967296 ≤ q) = true := decide_eq_true c1
      have m := half_more HH2.out hi.out (.inl c1)
      have m1 := m.1
      have M := Lib.hid m
      clear m
      by_cases c3 : 4294967296 ≤ r + v1
      ·have k3 : decide (4294967296 ≤ r + v1) = true := decide_eq_true c3
       have hq1 : q - 1 = Q0 := M.out.2.2.2 c3
       clear M hi
       go_wp2
       go_ret2
       exact ⟨rfl, rfl⟩
      ·have k3 : decide (4294967296 ≤ r + v1) = false := decide_eq_false c3
       go_wp2
       go_round
       case rel => exact ⟨q - 1, r + v1, Lib.hid ⟨by omega, by omega, by omega, by omega, M.out.2.2.1, M.out.2.1⟩, rfl, rfl⟩
       case measure => simp [intOf]; omega
     ·have k1 : decide (4294967296 ≤ q) = false := decide_eq_false c1
      have hm := half_mul g0 g0' hi1 (Int.not_le.1 c1)
      have hw1 : IntKind.u64.wrap (q * v0) = q * v0 := by rw [IntKind.wrap_u64]; omega
      have hw2 : IntKind.u64.wrap (4294967296 * r) = 4294967296 * r := by rw [IntKind.wrap_u64]; omega
      have hw3 : IntKind.u64.wrap (4294967296 * r + d0) = 4294967296 * r + d0 := by rw [IntKind.wrap_u64]; omega
      by_cases c2 : 4294967296 * r + d0 < q * v0
      ·have k2 : decide (4294967296 * r + d0 < q * v0) = true := decide_eq_true c2
       have m := half_more HH2.out hi.out (.inr c2)
       have m1 := m.1
       have M := Lib.hid m
       clear m hm
       by_cases c3 : 4294967296 ≤ r + v1
       ·have k3 : decide (4294967296 ≤ r + v1) = true := decide_eq_true c3
        have hq1 : q - 1 = Q0 := M.out.2.2.2 c3
        clear M hi
        go_wp2
        go_ret2
        exact ⟨rfl, rfl⟩
       ·have k3 : decide (4294967296 ≤ r + v1) = false := decide_eq_false c3
        go_wp2
        go_round
        case rel => exact ⟨q - 1, r + v1, Lib.hid ⟨by omega, by omega, by omega, by omega, M.out.2.2.1, M.out.2.1⟩, rfl, rfl⟩
        case measure => simp [intOf]; omega
      ·have k2 : decide (4294967296 * r + d0 < q * v0) = false := decide_eq_false c2
       have hq1 : q = Q0 := half_stop HH2.out hi.out (Int.not_lt.1 c2)
       subst hq1
       clear hi hm
       go_wp2
       go_ret2
       exact ⟨rfl, rfl⟩
   ·have k3 : decide (4294967296 ≤ r + v1) = false := decide_eq_false c3
    go_wp2
    go_round
    case rel => exact ⟨q - 1, r + v1, Lib.hid ⟨by omega, by omega, by omega, by omega, M.out.2.2.1, M.out.2.1⟩, rfl, rfl⟩
    case measure => simp [intOf]; omega
  ·have k1 : decide (4294967296 ≤ q) = false := decide_eq_false c1
   have hm := half_mul g0 g0' hi1 (Int.not_le.1 c1)
   have hw1 : IntKind.u64.wrap (q * v0) = q * v0 := by rw [IntKind.wrap_u64]; omega
   have hw2 : IntKind.u64.wrap (4294967296 * r) = 4294967296 * r := by rw [IntKind.wrap_u64]; omega
   have hw3 : IntKind.u64.wrap (4294967296 * r + d1) = 4294967296 * r + d1 := by rw [IntKind.wrap_u64]; omega
   by_cases c2 : 4294967296 * r + d1 < q * v0
   ·have k2 : decide (4294967296 * r + d1 < q * v0) = true := decide_eq_true c2
    have m := half_more HH1.out hi.out (.inr c2)
    have m1 := m.1
    have M := Lib.hid m
    clear m hm
    by_cases c3 : 4294967296 ≤ r + v1
    ·have k3 : decide (4294967296 ≤ r + v1) = true := decide_eq_true c3
     have hq1 : q - 1 = Q1 := M.out.2.2.2 c3
     clear M hi
     go_wp2
     go_loop [18, 16] (fun a b => ∃ q r : Int, Hid (HInv u2 v1 q r Q0) ∧ a = .int .u64 q ∧ b = .int .u64 r) (fun a _ => (intOf a).toNat)
     case atStart => exact ⟨_, _, Lib.hid (half_start HH2.out rfl rfl), rfl, rfl⟩
     case round =>
      obtain ⟨q, r, hi, rfl, rfl⟩ := hrel
      have hi1 := hi.out.1
      have hi2 := hi.out.2.1
      have hi3 := hi.out.2.2.1
      have hi4 := hi.out.2.2.2.1
      by_cases c1 : 4294967296 ≤ q
      ·have k1 : decide (4294967296 ≤ q) = true := decide_eq_true c1
       have m := half_more HH2.out hi.out (.inl c1)
       have m1 := m.1
       have M := Lib.hid m
       clear m
       by_cases c3 : 4294967296 ≤ r + v1
       ·have k3 : decide (4294967296 ≤ r + v1) = true := decide_eq_true c3
        have hq1 : q - 1 = Q0 := M.out.2.2.2 c3
        clear M hi
        go_wp2
        go_ret2
        exact ⟨rfl, rfl⟩
       ·have k3 : decide (4294967296 ≤ r + v1) = false := decide_eq_false c3
        go_wp2
        go_round
        case rel => exact ⟨q - 1, r + v1, Lib.hid ⟨by omega, by omega, by omega, by omega, M.out.2.2.1, M.out.2.1⟩, rfl, rfl⟩
        case measure => simp [intOf]; omega
      ·have k1 : decide (4294967296 ≤ q) = false := decide_eq_false c1
       have hm := half_mul g0 g0' hi1 (Int.not_le.1 c1)
       have hw1 : IntKind.u64.wrap (q * v0) = q * v0 := by rw [IntKind.wrap_u64]; omega
       have hw2 : IntKind.u64.wrap (4294967296 * r) = 4294967296 * r := by rw [IntKind.wrap_u64]; omega
       have hw3 : IntKind.u64.wrap (4294967296 * r + d0) = 4294967296 * r + d0 := by rw [IntKind.wrap_u64]; omega
       by_cases c2 : 4294967296 * r + d0 < q * v0
       ·have k2 : decide (4294967296 * r + d0 < q * v0) = true := decide_eq_true c2
        have m := half_more HH2.out hi.out (.inr c2)
        have m1 := m.1
        have M := Lib.hid m
        clear m hm
        by_cases c3 : 4294967296 ≤ r + v1
        ·have k3 : decide (4294967296 ≤ r + v1) = true := decide_eq_true c3
         have hq1 : q - 1 = Q0 := M.out.2.2.2 c3
         clear M hi
         go_wp2
         go_ret2
         exact ⟨rfl, rfl⟩
        ·have k3 : decide (4294967296 ≤ r + v1) = false := decide_eq_false c3
         go_wp2
         go_round
         case rel => exact ⟨q - 1, r + v1, Lib.hid ⟨by omega, by omega, by omega, by omega, M.out.2.2.1, M.out.2.1⟩, rfl, rfl⟩
         case measure => simp [intOf]; omega
       ·have k2 : decide (4294967296 * r + d0 < q * v0) = false := decide_eq_false c2
        have hq1 : q = Q0 := half_stop HH2.out hi.out (Int.not_lt.1 c2)
        subst hq1
        clear hi hm
        go_wp2
        go_ret2
        exact ⟨rfl, rfl⟩
    ·have k3 : decide (4294967296 ≤ r + v1) = false := decide_eq_false c3
     go_wp2
     go_round
     case rel => exact ⟨q - 1, r + v1, Lib.hid ⟨by omega, by omega, by omega, by omega, M.out.2.2.1, M.out.2.1⟩, rfl, rfl⟩
     case measure => simp [intOf]; omega
   ·have k2 : decide (4294967296 * r + d1 < q * v0) = false := decide_eq_false c2
    have hq1 : q = Q1 := half_stop HH1.out hi.out (Int.not_lt.1 c2)
    subst hq1
    clear hi hm
    go_wp2
    go_loop [18, 16] (fun a b => ∃ q r : Int, Hid (HInv u2 v1 q r Q0) ∧ a = .int .u64 q ∧ b = .int .u64 r) (fun a _ => (intOf a).toNat)
    case atStart => exact ⟨_, _, Lib.hid (half_start HH2.out rfl rfl), rfl, rfl⟩
    case round =>
     obtain ⟨q, r, hi, rfl, rfl⟩ := hrel
     have hi1 := hi.out.1
     have hi2 := hi.out.2.1
     have hi3 := hi.out.2.2.1
     have hi4 := hi.out.2.2.2.1
     by_cases c1 : 4294967296 ≤ q
     ·have k1 : decide (4294967296 ≤ q) = true := decide_eq_true c1
      have m := half_more HH2.out hi.out (.inl c1)
      have m1 := m.1
      have M := Lib.hid m
      clear m
      by_cases c3 : 4294967296 ≤ r + v1
      ·have k3 : decide (4294967296 ≤ r + v1) = true := decide_eq_true c3
       have hq1 : q - 1 = Q0 := M.out.2.2.2 c3
       clear M hi
       go_wp2
       go_ret2
       exact ⟨rfl, rfl⟩
      ·have k3 : decide (4294967296 ≤ r + v1) = false := decide_eq_false c3
       go_wp2
       go_round
       case rel => exact ⟨q - 1, r + v1, Lib.hid ⟨by omega, by omega, by omega, by omega, M.out.2.2.1, M.out.2.1⟩, rfl, rfl⟩
       case measure => simp [intOf]; omega
     ·have k1 : decide (4294967296 ≤ q) = false := decide_eq_false c1
      have hm := half_mul g0 g0' hi1 (Int.not_le.1 c1)
      have hw1 : IntKind.u64.wrap (q * v0) = q * v0 := by rw [IntKind.wrap_u64]; omega
      have hw2 : IntKind.u64.wrap (4294967296 * r) = 4294967296 * r := by rw [IntKind.wrap_u64]; omega
      have hw3 : IntKind.u64.wrap (4294967296 * r + d0) = 4294967296 * r + d0 := by rw [IntKind.wrap_u64]; omega
      by_cases c2 : 4294967296 * r + d0 < q * v0
      ·have k2 : decide (4294967296 * r + d0 < q * v0) = true := decide_eq_true c2
       have m := half_more HH2.out hi.out (.inr c2)
       have m1 := m.1
       have M := Lib.hid m
       clear m hm
       by_cases c3 : 4294967296 ≤ r + v1
       ·have k3 : decide (4294967296 ≤ r + v1) = true := decide_eq_true c3
        have hq1 : q - 1 = Q0 := M.out.2.2.2 c3
        clear M hi
        go_wp2
        go_ret2
        exact ⟨rfl, rfl⟩
       ·have k3 : decide (4294967296 ≤ r + v1) = false := decide_eq_false c3
        go_wp2
        go_round
        case rel => exact ⟨q - 1, r + v1, Lib.hid ⟨by omega, by omega, by omega, by omega, M.out.2.2.1, M.out.2.1⟩, rfl, rfl⟩
        case measure => simp [intOf]; omega
      ·have k2 : decide (4294967296 * r + d0 < q * v0) = false := decide_eq_false c2
       have hq1 : q = Q0 := half_stop HH2.out hi.out (Int.not_lt.1 c2)
       subst hq1
       clear hi hm
       go_wp2
       go_ret2
       exact ⟨rfl, rfl⟩
end Go.Proofs.YtbpjnkeilhfajaaGreat.Num
end
