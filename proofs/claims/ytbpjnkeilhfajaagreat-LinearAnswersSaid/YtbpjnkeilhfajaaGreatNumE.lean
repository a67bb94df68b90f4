import Derived.Test.YtbpjnkeilhfajaaGreatDigA
import Derived.Test.YtbpjnkeilhfajaaGreatTk
section
/- Contracts of num: gcd, whole, Add, Sub, Mul, Neg, Gcd. -/
namespace Go.Proofs
theorem Z2f0 {p : Prop} (h : p := by rintro e w' ⟨rfl, rfl⟩; exact ⟨rfl, (by repeat (first | exact Below.refl _ _ | with_reducible assumption | refine Below.alloc ?_ (by first | exact Nat.le_refl _ | (simp; done) | (simp; omega) | omega) _ | refine Below.setCell ?_ (by first | exact Nat.le_refl _ | (simp; done) | (simp; omega) | omega) _ | refine Below.drew ?_ | refine bdrewN ?_ _))⟩) : p := h
end Go.Proofs
namespace Go.Proofs.YtbpjnkeilhfajaaGreat.Num
open Go.RowKit
set_option linter.unusedVariables false
set_option linter.unusedSimpArgs false
theorem gcd_step (a b : Int) (ha : 0 ≤ a) (hb : 0 ≤ b) : Int.gcd b (a % b) = Int.gcd a b := by
 obtain ⟨x, rfl⟩ := Int.eq_ofNat_of_zero_le ha
 obtain ⟨y, rfl⟩ := Int.eq_ofNat_of_zero_le hb
 rw [← Int.natCast_emod, Int.gcd_natCast_natCast, Int.gcd_natCast_natCast, Nat.gcd_comm x y, Nat.gcd_comm y (x % y)]
 exact (Nat.gcd_rec y x).symm
theorem gcd_any (a b : Int) (w : World) (ha : 0 ≤ a) (ha2 : a < 18446744073709551616) (hb : 0 ≤ b) (hb2 : b < 18446744073709551616) :
  Calls Tryz.prog 62 #[.int .u64 a, .int .u64 b] w fun e w' => e = .returned (.int .u64 (Int.gcd a b)) ∧ ∃ n, w' = w.drewN n := by
 go_enter Tryz.func62, Tryz.ntmps62
 go_wp2
 go_loopw [0, 1] (fun x y W => ∃ p q : Int, 0 ≤ p ∧ 0 ≤ q ∧ x = .int .u64 p ∧ y = .int .u64 q ∧ Hid (Int.gcd p q = Int.gcd a b) ∧ ∃ n, W = w.drewN n) (fun _ y _ => (intOf y).toNat)
 case atStart => exact ⟨a, b, ha, hb, rfl, rfl, rfl, 0, rfl⟩
 case round =>
  obtain ⟨p, q, hp, hq, rfl, rfl, hg, n, rfl⟩ := hrel
  by_cases h0 : 0 < q
  ·have e1 : decide (0 < q) = true := decide_eq_true h0
   have hne : ¬ q = 0 := by omega
   have hs := Lib.hid (gcd_step p q hp hq)
   go_wp2
   go_quiet (fail)
   go_roundw
   case rel => exact ⟨_, _, _, _, _, _, _, _, ⟨q, p % q, hq, Int.emod_nonneg _ hne, rfl, rfl, Lib.hid (by rw [hs.out, hg.out]), n + nq, by simp [World.drewN, Nat.add_assoc]⟩, rfl⟩
   case measure =>
    have := Int.emod_lt_of_pos p h0
    have := Int.emod_nonneg p hne
    simp [intOf]; omega
  ·have e1 : decide (0 < q) = false := decide_eq_false h0
   obtain rfl : q = 0 := by omega
   go_wp2
   go_ret
   exact ⟨ret_int (by rw [← hg.out, Int.gcd_zero_right]; omega), n, rfl⟩
def fitp (x : Int) : Int × Bool := if -9223372036854775808 ≤ x ∧ x < 9223372036854775808 then (x, true) else (0, false)
theorem int64_fits {x : Int} {b h l} (hw : WV x b h l) (hx : -9223372036854775808 ≤ x ∧ x < 9223372036854775808) (w : World) :
  Calls Tryz.prog 103 #[W b h l] w fun e w' => e = .returned (.int .i64 x) ∧ w' = w.alloc (.cells #[.bool b, .int .u64 h, .int .u64 l] 83) := by
 obtain ⟨h0, h1, l0, l1, hv⟩ := hw
 have hh : h = 0 := by cases b <;> simp at hv <;> omega
 subst hh
 have := int64_yes b l w l0 (by cases b <;> simp at hv <;> omega) (by cases b <;> simp at hv <;> intros <;> first | rfl | omega)
 refine this.mono ?_
 rintro e w' ⟨rfl, hb⟩
 refine ⟨ret_int ?_, hb⟩
 rw [hv]; split <;> omega
theorem int64_large {x : Int} {b h l} (hw : WV x b h l) (hx : ¬ (-9223372036854775808 ≤ x ∧ x < 9223372036854775808)) (w : World) :
  Calls Tryz.prog 103 #[W b h l] w fun e w' => e = .panicked LargeP ∧ w' = w.alloc (.cells #[.bool b, .int .u64 h, .int .u64 l] 83) := by
 obtain ⟨h0, h1, l0, l1, hv⟩ := hw
 refine int64_no b h l w ?_
 cases b <;> simp at hv ⊢ <;> omega
theorem cf_int64 (args : Array Value) (w : World) : (callFunc 103 args).run Tryz.prog w = .ok (.enter 103 args) w := by kernel_rfl
theorem whole_any {x : Int} {b h l} (hw : WV x b h l) (w : World) :
  Calls Tryz.prog 112 #[W b h l] w fun e w' => e = .returned (.tuple #[.int .i64 (fitp x).1, .bool (fitp x).2]) ∧ Below w.heap.size w w' := by
 by_cases hx : -9223372036854775808 ≤ x ∧ x < 9223372036854775808
 ·have H := fun W0 => fits64_ok 103 #[W b h l] x W0 (cf_int64 _) (fun W1 _ => (int64_fits hw hx W1).mono Z2f0)
  have hf : fitp x = (x, true) := if_pos hx
  rw [hf]
  have H' := Lib.hid H
  clear H hf hx hw
  unfold W at *
  go_enter Tryz.func112, Tryz.ntmps112
  go_wp2_with fail
  refine (H'.out _).mono ?_
  rintro e w1 ⟨rfl, hb1⟩
  go_wp2
  go_ret2
  exact ⟨rfl, ((Below.refl _ _).alloc (Nat.le_refl _) _).trans (hb1.mono (by simp))⟩
 ·have H := fun W0 => fits64_no 103 #[W b h l] W0 (cf_int64 _) (fun W1 _ => (int64_large hw hx W1).mono Z2f0)
  have hf : fitp x = (0, false) := if_neg hx
  rw [hf]
  have H' := Lib.hid H
  clear H hf hx hw
  unfold W at *
  go_enter Tryz.func112, Tryz.ntmps112
  go_wp2_with fail
  refine (H'.out _).mono ?_
  rintro e w1 ⟨rfl, hb1⟩
  go_wp2
  go_ret2
  exact ⟨rfl, ((Below.refl _ _).alloc (Nat.le_refl _) _).trans (hb1.mono (by simp))⟩
end Go.Proofs.YtbpjnkeilhfajaaGreat.Num
end

section
/- Contracts of num: Add, Sub, Mul, Neg, Gcd, Cmp. -/
namespace Go.Proofs
theorem Z2g0 {p : Prop} (h : p := by repeat (first | exact Below.refl _ _ | with_reducible assumption | refine Below.alloc ?_ (by first | exact Nat.le_refl _ | (simp; done) | (simp; omega) | omega) _ | refine Below.setCell ?_ (by first | exact Nat.le_refl _ | (simp; done) | (simp; omega) | omega) _ | refine Below.drew ?_ | refine bdrewN ?_ _)) : p := h
theorem Z2g1 {p : Prop} (h : p := by with_reducible assumption) : p := h
theorem Z2g2 {p : Prop} (h : p := by simp [go_sem]) : p := h
theorem Z2g3 {p : Prop} (h : p := by first | exact Nat.le_refl _ | (simp; done) | (simp; omega) | omega) : p := h
theorem Z2g4 {p : Prop} (h : p := by have := hx'.out; unfold cmpI; simp at this; rw [if_neg (by omega), if_neg (by omega)]) : p := h
end Go.Proofs
namespace Go.Proofs.YtbpjnkeilhfajaaGreat.Num
open Go.RowKit
set_option linter.unusedVariables false
set_option linter.unusedSimpArgs false
def In64 (a : Int) : Prop := -9223372036854775808 ≤ a ∧ a < 9223372036854775808
theorem wv_of {a : Int} (h : In64 a) : WV a (decide (a < 0)) 0 (sz a) := by
 obtain ⟨h1, h2⟩ := h
 unfold WV sz
 refine ⟨by omega, by omega, by split <;> omega, by split <;> omega, ?_⟩
 by_cases hn : a < 0
 ·simp [hn]
 ·simp [hn]
theorem wv_neg {x : Int} {b h l} (hw : WV x b h l) : WV (-x) (!b) h l := by
 obtain ⟨h0, h1, l0, l1, hv⟩ := hw
 refine ⟨h0, h1, l0, l1, ?_⟩
 rw [hv]; cases b <;> simp
theorem sz_mul (a b : Int) : (if sg a b = true then -(sz a * sz b) else sz a * sz b) = a * b := by
 unfold sz sg
 by_cases ha : a < 0 <;> by_cases hb : b < 0 <;> simp [ha, hb, Int.neg_mul, Int.mul_neg]
theorem wv_mul {a b : Int} (ha : In64 a) (hb : In64 b) : WV (a * b) (sg a b) (sz a * sz b / 18446744073709551616) (sz a * sz b % 18446744073709551616) := by
 have a0 := sz_nonneg a
 have b0 := sz_nonneg b
 have a1 := sz_le ha.1 ha.2
 have b1 := sz_le hb.1 hb.2
 have hm := mul_bound a0 a1 b0 b1
 refine ⟨by omega, by omega, by omega, by omega, ?_⟩
 rw [← sz_mul a b]
 split <;> omega
theorem wv_mul_small {a b : Int} (ha : In64 a) (hb : In64 b) : (sz a * sz b / 18446744073709551616) * 18446744073709551616 + sz a * sz b % 18446744073709551616 ≤ 85070591730234615865843651857942052864 := by
 have hm := mul_bound (sz_nonneg a) (sz_le ha.1 ha.2) (sz_nonneg b) (sz_le hb.1 hb.2)
 omega
theorem Add_any (a b : Int) (w : World) (ha : In64 a) (hb : In64 b) :
  Calls Tryz.prog 94 #[.int .i64 a, .int .i64 b] w fun e w' => e = .returned (.tuple #[.int .i64 (fitp (a + b)).1, .bool (fitp (a + b)).2]) ∧ Below w.heap.size w w' := by
 have o1 := fun W0 => of_any a W0 ha.1 ha.2
 have o2 := fun W0 => of_any b W0 hb.1 hb.2
 have s1 := sz_le ha.1 ha.2
 have s2 := sz_le hb.1 hb.2
 have p := fun W0 => plus_any a b _ _ _ _ _ _ W0 (wv_of ha) (wv_of hb) (by omega)
 have p' := Lib.hid p
 have o1' := Lib.hid o1
 have o2' := Lib.hid o2
 clear p o1 o2 s1 s2 ha hb
 go_enter Tryz.func94, Tryz.ntmps94
 go_wp2_with fail
 refine (o1'.out _).mono ?_
 rintro e w1 ⟨rfl, hb1⟩
 go_wp2_with fail
 refine (o2'.out _).mono ?_
 rintro e w2 ⟨rfl, hb2⟩
 go_wp2_with fail
 refine (p'.out _).mono ?_
 rintro e w3 ⟨⟨b3, h3, l3, rfl, hv⟩, hb3⟩
 have hv' := Lib.hid hv
 clear hv
 go_wp2_with fail
 refine (whole_any hv'.out _).mono ?_
 rintro e w4 ⟨rfl, hb4⟩
 go_wp2
 go_ret2
 exact ⟨rfl, hb1.trans ((hb2.mono hb1.size).trans ((hb3.mono (Nat.le_trans hb1.size hb2.size)).trans (hb4.mono (Nat.le_trans hb1.size (Nat.le_trans hb2.size hb3.size)))))⟩
theorem bthen {w w1 w2 : World} (h1 : Below w.heap.size w w1) (h2 : Below w1.heap.size w1 w2) : Below w.heap.size w w2 := h1.trans (h2.mono h1.size)
theorem bdrew (w : World) (n : Nat) : Below w.heap.size w (w.drewN n) := ⟨rfl, rfl, rfl, Nat.le_refl _, fun _ _ => rfl⟩
theorem Mul_any (a b : Int) (w : World) (ha : In64 a) (hb : In64 b) :
  Calls Tryz.prog 95 #[.int .i64 a, .int .i64 b] w fun e w' => e = .returned (.tuple #[.int .i64 (fitp (a * b)).1, .bool (fitp (a * b)).2]) ∧ Below w.heap.size w w' := by
 have p' := Lib.hid (fun W0 => product_any a b W0 ha.1 ha.2 hb.1 hb.2)
 have hv := Lib.hid (wv_mul ha hb)
 clear ha hb
 go_enter Tryz.func95, Tryz.ntmps95
 go_wp2_with fail
 refine (p'.out _).mono ?_
 rintro e w1 ⟨rfl, hw1⟩
 have hb1 : Below w.heap.size w w1 := by rw [hw1]; exact Z2g0
 clear hw1
 go_wp2_with fail
 refine (whole_any hv.out _).mono ?_
 rintro e w2 ⟨rfl, hb2⟩
 go_wp2
 go_ret2
 exact ⟨rfl, bthen hb1 hb2⟩
theorem Neg_any (a : Int) (w : World) (ha : In64 a) :
  Calls Tryz.prog 79 #[.int .i64 a] w fun e w' => e = .returned (.tuple #[.int .i64 (fitp (-a)).1, .bool (fitp (-a)).2]) ∧ Below w.heap.size w w' := by
 have o1' := Lib.hid (fun W0 => of_any a W0 ha.1 ha.2)
 have hv := Lib.hid (wv_neg (wv_of ha))
 clear ha
 go_enter Tryz.func79, Tryz.ntmps79
 go_wp2_with fail
 refine (o1'.out _).mono ?_
 rintro e w1 ⟨rfl, hb1⟩
 go_wp2_with fail
 refine (neg_any _ _ _ _).mono ?_
 rintro e w2 ⟨rfl, hw2⟩
 have hb2 : Below w1.heap.size w1 w2 := by rw [hw2]; exact Z2g0
 clear hw2
 go_wp2_with fail
 refine (whole_any hv.out _).mono ?_
 rintro e w3 ⟨rfl, hb3⟩
 go_wp2
 go_ret2
 exact ⟨rfl, bthen (bthen hb1 hb2) hb3⟩
theorem gcd_le {a b : Int} (ha : 0 ≤ a) (hb : 0 ≤ b) (h : a < 18446744073709551616) (h2 : b < 18446744073709551616) : (Int.gcd a b : Int) < 18446744073709551616 := by
 by_cases h0 : a = 0
 ·subst h0; rw [Int.gcd_zero_left]; omega
 ·have := Int.gcd_le_natAbs_left (b := b) h0
  omega
theorem gcd_sz (a b : Int) : Int.gcd (sz a) (sz b) = Int.gcd a b := by
 unfold sz
 split <;> split <;> simp
theorem Gcd_any (a b : Int) (w : World) (ha : In64 a) (hb : In64 b) :
  Calls Tryz.prog 99 #[.int .i64 a, .int .i64 b] w fun e w' => e = .returned (.tuple #[.int .i64 (fitp (Int.gcd a b)).1, .bool (fitp (Int.gcd a b)).2]) ∧ Below w.heap.size w w' := by
 have o1' := Lib.hid (fun W0 => size_any a W0 ha.1 ha.2)
 have o2' := Lib.hid (fun W0 => size_any b W0 hb.1 hb.2)
 have s1 := sz_le ha.1 ha.2
 have s2 := sz_le hb.1 hb.2
 have s3 := sz_nonneg a
 have s4 := sz_nonneg b
 have g' := Lib.hid (fun W0 => gcd_any (sz a) (sz b) W0 s3 (by omega) s4 (by omega))
 have hg := gcd_le s3 s4 (by omega) (by omega)
 rw [gcd_sz] at g' hg
 have hv : WV (Int.gcd a b) false 0 (Int.gcd a b) := ⟨by omega, by omega, by omega, by omega, by simp⟩
 have hv' := Lib.hid hv
 clear s1 s2 s3 s4 hg ha hb hv
 go_enter Tryz.func99, Tryz.ntmps99
 go_wp2_with fail
 refine (o1'.out _).mono ?_
 rintro e w1 ⟨rfl, rfl⟩
 go_wp2_with fail
 refine (o2'.out _).mono ?_
 rintro e w1 ⟨rfl, rfl⟩
 go_wp2_with fail
 refine (g'.out _).mono ?_
 rintro e w1 ⟨rfl, n, rfl⟩
 go_wp2_with fail
 refine (whole_any hv'.out _).mono ?_
 rintro e w3 ⟨rfl, hb3⟩
 go_wp2
 go_ret2
 exact ⟨rfl, bthen (bdrew _ n) hb3⟩
theorem Whole_any (a : Int) (w : World) : Calls Tryz.prog 84 #[.int .i64 a] w fun e w' => e = .returned (.agg #[.int .i64 a, .int .i64 1]) ∧ Below w.heap.size w w' := by
 go_enter Tryz.func84, Tryz.ntmps84
 go_wp2
 exact bodyPost_ret (v := .agg #[.int .i64 a, .int .i64 1]) (by simp [results, Tryz.results84, go_sem]) rfl ⟨rfl, Z2g0⟩
theorem right_any (p q : Int) (w : World) : Calls Tryz.prog 114 #[.agg #[.int .i64 p, .int .i64 q]] w fun e w' => e = .returned (.bool (decide (0 < q))) ∧ w' = w.alloc (.cells #[.int .i64 p, .int .i64 q] 28) := by
 go_enter Tryz.func114, Tryz.ntmps114
 go_wp2
 go_ret
 exact ⟨rfl, rfl⟩
def cmpI (x : Int) : Int := if x < 0 then -1 else if x = 0 then 0 else 1
theorem keepcell {W w1 : World} (hb : Below W.heap.size W w1) {b o : Nat} {v : Value} (h : W.cell? ⟨b, o, none⟩ = some v) : w1.cell? ⟨b, o, none⟩ = some v := by
 rw [hb.cell (p := ⟨b, o, none⟩) ?_, h]
 show b < W.heap.size
 by_cases hlt : b < W.heap.size
 ·exact hlt
 ·rw [World.cell?, Array.getElem?_eq_none (Nat.not_lt.1 hlt)] at h
  simp at h
theorem keepalloc {W : World} {o : Obj} {b i : Nat} {v : Value} (h : W.cell? ⟨b, i, none⟩ = some v) : (W.alloc o).cell? ⟨b, i, none⟩ = some v := by
 rw [World.cell?_alloc_some _ _ _ (by rw [h]; rfl), h]
theorem keepset {W : World} {g k b i : Nat} {u v : Value} (hb : b ≠ g) (h : W.cell? ⟨b, i, none⟩ = some v) : (W.setCell ⟨g, k, none⟩ u).cell? ⟨b, i, none⟩ = some v := by
 rw [World.cell?_setCell_far _ _ _ _ (Ne.symm hb), h]
theorem bgrow {W w1 : World} (hb : Below W.heap.size W w1) : (∀ b o, b < W.heap.size → w1.cell? ⟨b, o, none⟩ = W.cell? ⟨b, o, none⟩) ∧ (∀ b o, b < W.heap.size → w1.frozen? ⟨b, o, none⟩ = W.frozen? ⟨b, o, none⟩) ∧ ∀ b, b < W.heap.size → b < w1.heap.size :=
 ⟨(bcell hb).1, (bcell hb).2, fun b h => Nat.lt_of_lt_of_le h hb.size⟩
set_option maxHeartbeats 4000000 in
theorem Cmp_any (p q r s : Int) (w : World) (hp : In64 p) (hq : In64 q) (hr : In64 r) (hs : In64 s) :
  Calls Tryz.prog 25 #[.agg #[.int .i64 p, .int .i64 q], .agg #[.int .i64 r, .int .i64 s]] w fun e w' => e = .returned (.int .i64 (cmpI (p * s - r * q))) ∧ Below w.heap.size w w' := by
 have p1 := Lib.hid (fun W0 => product_any p s W0 hp.1 hp.2 hs.1 hs.2)
 have p2 := Lib.hid (fun W0 => product_any r q W0 hr.1 hr.2 hq.1 hq.2)
 have v1 := wv_mul hp hs
 have v2 := wv_neg (wv_mul hr hq)
 have m1 := wv_mul_small hp hs
 have m2 := wv_mul_small hr hq
 have pl := Lib.hid (fun W0 => plus_any _ _ _ _ _ _ _ _ W0 v1 v2 (by omega))
 clear v1 v2 m1 m2
 go_enter Tryz.func25, Tryz.ntmps25
 go_wp2
 go_region_held3 (fun w' => w'.cell? ⟨w.heap.size, 0, none⟩ = some (.int .i64 p) ∧ w'.cell? ⟨w.heap.size, 1, none⟩ = some (.int .i64 q) ∧ w'.cell? ⟨w.heap.size + 1, 0, none⟩ = some (.int .i64 r) ∧ w'.cell? ⟨w.heap.size + 1, 1, none⟩ = some (.int .i64 s))
  (first | (simp [go_sem]; done) | (go_split_ands; with_reducible exact ⟨keepcell Z2g1 Z2g2, keepcell Z2g1 Z2g2, keepcell Z2g1 Z2g2, keepcell Z2g1 Z2g2⟩) | (go_split_ands; with_reducible exact ⟨keepalloc (keepcell Z2g1 Z2g2), keepalloc (keepcell Z2g1 Z2g2), keepalloc (keepcell Z2g1 Z2g2), keepalloc (keepcell Z2g1 Z2g2)⟩) | (go_split_ands; with_reducible exact ⟨keepset (by omega) (keepset (by omega) (keepset (by omega) (keepcell Z2g1 Z2g2))), keepset (by omega) (keepset (by omega) (keepset (by omega) (keepcell Z2g1 Z2g2))), keepset (by omega) (keepset (by omega) (keepset (by omega) (keepcell Z2g1 Z2g2))), keepset (by omega) (keepset (by omega) (keepset (by omega) (keepcell Z2g1 Z2g2)))⟩))
  (first | ((with_reducible refine (p1.out _).mono ?_); rintro e w1 ⟨rfl, rfl⟩) | ((with_reducible refine (p2.out _).mono ?_); rintro e w2 ⟨rfl, rfl⟩) | ((with_reducible refine (neg_any _ _ _ _).mono ?_); rintro e w3 ⟨rfl, rfl⟩) | ((with_reducible refine (pl.out _).mono ?_); rintro e w4 ⟨⟨b3, h3, l3, rfl, hv⟩, hb4⟩; have hv' := Lib.hid hv; clear hv; obtain ⟨g1, g2, g3⟩ := bgrow hb4))
 all_goals
  have hbw : Below w.heap.size w w4 := Below.trans (by first | exact Z2g0 | exact Below.drew Z2g0) (hb4.mono Z2g3)
  have hz : w.heap.size + 2 ≤ w4.heap.size := by have := hb4.size; simp at this; omega
  obtain ⟨h0, h1, l0, l1, hx⟩ := hv'.out
  have hx' := Lib.hid hx
  clear hx hb4 p1 p2 pl
  by_cases c1 : h3 = 0
  ·subst c1
   by_cases c2 : l3 = 0
   ·subst c2
    go_wp2
    go_ret
    exact ⟨ret_int (by have := hx'.out; unfold cmpI; cases b3 <;> simp at this <;> (rw [if_neg (by omega), if_pos (by omega)])), Z2g0⟩
   ·have e2 : (l3 == 0) = false := beq_eq_false_iff_ne.2 c2
    cases b3
    ·go_wp2
     go_ret
     exact ⟨ret_int Z2g4, Z2g0⟩
    ·go_wp2
     go_ret
     exact ⟨ret_int (by have := hx'.out; unfold cmpI; simp at this; rw [if_pos (by omega)]), Z2g0⟩
  ·have e2 : (h3 == 0) = false := beq_eq_false_iff_ne.2 c1
   cases b3
   ·go_wp2
    go_ret
    exact ⟨ret_int Z2g4, Z2g0⟩
   ·go_wp2
    go_ret
    exact ⟨ret_int (by have := hx'.out; unfold cmpI; simp at this; rw [if_pos (by omega)]), Z2g0⟩
end Go.Proofs.YtbpjnkeilhfajaaGreat.Num
end

section
/- Contracts of num: rat, Make and its closure. -/
namespace Go.Proofs
theorem Z2h0 {p : Prop} (h : p := by repeat (first | exact Below.refl _ _ | with_reducible assumption | refine Below.alloc ?_ (by first | exact Nat.le_refl _ | (simp; done) | (simp; omega) | omega) _ | refine Below.setCell ?_ (by first | exact Nat.le_refl _ | (simp; done) | (simp; omega) | omega) _ | refine Below.drew ?_ | refine bdrewN ?_ _)) : p := h
end Go.Proofs
namespace Go.Proofs.YtbpjnkeilhfajaaGreat.Num
open Go.RowKit
set_option linter.unusedVariables false
set_option linter.unusedSimpArgs false
@[reducible, go_sem] def RV (p q : Int) : Value := .agg #[.int .i64 p, .int .i64 q]
set_option maxHeartbeats 1000000 in
theorem rat_ok {x y : Int} {b h l b2 h2 l2} (hw : WV x b h l) (hw2 : WV y b2 h2 l2) (hx : In64 x) (hy : In64 y) (w : World) :
  Calls Tryz.prog 64 #[W b h l, W b2 h2 l2] w fun e w' => e = .returned (RV x y) ∧ Below w.heap.size w w' := by
 have p1 := Lib.hid (fun W0 => int64_fits hw hx W0)
 have p2 := Lib.hid (fun W0 => int64_fits hw2 hy W0)
 clear hw hw2 hx hy
 unfold W at *
 go_enter Tryz.func64, Tryz.ntmps64
 go_wp2
 go_region_held3 (fun w' => w'.cell? ⟨w.heap.size, 0, none⟩ = some (.bool b) ∧ w'.cell? ⟨w.heap.size, 1, none⟩ = some (.int .u64 h) ∧ w'.cell? ⟨w.heap.size, 2, none⟩ = some (.int .u64 l) ∧ w'.cell? ⟨w.heap.size + 1, 0, none⟩ = some (.bool b2) ∧ w'.cell? ⟨w.heap.size + 1, 1, none⟩ = some (.int .u64 h2) ∧ w'.cell? ⟨w.heap.size + 1, 2, none⟩ = some (.int .u64 l2))
  (first | (simp [go_sem]; done))
  (first | ((with_reducible refine (p1.out _).mono ?_); rintro e w1 ⟨rfl, rfl⟩) | ((with_reducible refine (p2.out _).mono ?_); rintro e w2 ⟨rfl, rfl⟩))
 go_wp2
 exact bodyPost_ret (v := RV x y) (by simp [results, Tryz.results64, go_sem, RV]) rfl ⟨rfl, Z2h0⟩
set_option maxHeartbeats 1000000 in
theorem rat_no1 {x : Int} {b h l b2 h2 l2} (hw : WV x b h l) (hx : ¬ In64 x) (w : World) :
  Calls Tryz.prog 64 #[W b h l, W b2 h2 l2] w fun e w' => e = .panicked LargeP ∧ Below w.heap.size w w' := by
 have p1 := Lib.hid (fun W0 => int64_large hw hx W0)
 clear hw hx
 unfold W at *
 go_enter Tryz.func64, Tryz.ntmps64
 go_wp2
 refine wp_region_held_drew (S := (fun w' => w'.cell? ⟨w.heap.size, 0, none⟩ = some (.bool b) ∧ w'.cell? ⟨w.heap.size, 1, none⟩ = some (.int .u64 h) ∧ w'.cell? ⟨w.heap.size, 2, none⟩ = some (.int .u64 l) ∧ w'.cell? ⟨w.heap.size + 1, 0, none⟩ = some (.bool b2) ∧ w'.cell? ⟨w.heap.size + 1, 1, none⟩ = some (.int .u64 h2) ∧ w'.cell? ⟨w.heap.size + 1, 2, none⟩ = some (.int .u64 l2))) (by kernel_rfl) ?_ (fun hHeld => ?_)
 ·(simp [go_sem]; done)
 iterate 2 (first | refine tk0.go ?_ | refine tk2.go ?_)
 refine wpAnyH_ready (rs := [1]) (by kernel_rfl) (by simp) (ac1 (fun K hK => ?_) (AllReadyH.nil))
 focus go_simp
 ·(refine (p1.out _).mono ?_; rintro e w1 ⟨rfl, rfl⟩; exact ⟨rfl, rfl, by first | exact Z2h0 | exact Below.drew Z2h0⟩)
set_option maxHeartbeats 1000000 in
theorem rat_no2 {x y : Int} {b h l b2 h2 l2} (hw : WV x b h l) (hw2 : WV y b2 h2 l2) (hx : In64 x) (hy : ¬ In64 y) (w : World) :
  Calls Tryz.prog 64 #[W b h l, W b2 h2 l2] w fun e w' => e = .panicked LargeP ∧ Below w.heap.size w w' := by
 have p1 := Lib.hid (fun W0 => int64_fits hw hx W0)
 have p2 := Lib.hid (fun W0 => int64_large hw2 hy W0)
 clear hw hw2 hx hy
 unfold W at *
 go_enter Tryz.func64, Tryz.ntmps64
 go_wp2
 refine wp_region_held_drew (S := (fun w' => w'.cell? ⟨w.heap.size, 0, none⟩ = some (.bool b) ∧ w'.cell? ⟨w.heap.size, 1, none⟩ = some (.int .u64 h) ∧ w'.cell? ⟨w.heap.size, 2, none⟩ = some (.int .u64 l) ∧ w'.cell? ⟨w.heap.size + 1, 0, none⟩ = some (.bool b2) ∧ w'.cell? ⟨w.heap.size + 1, 1, none⟩ = some (.int .u64 h2) ∧ w'.cell? ⟨w.heap.size + 1, 2, none⟩ = some (.int .u64 l2))) (by kernel_rfl) ?_ (fun hHeld => ?_)
 ·(simp [go_sem]; done)
 iterate 2 (first | refine tk0.go ?_ | refine tk2.go ?_)
 refine wpAnyH_ready (rs := [1]) (by kernel_rfl) (by simp) (ac1 (fun K hK => ?_) (AllReadyH.nil))
 focus go_simp
 focus (refine (p1.out _).mono ?_; rintro e w1 ⟨rfl, rfl⟩)
 focus try simp only []
 refine hK.out _ _ ?_ (fun hHeld => ?_)
 ·(simp [go_sem]; done)
 focus clear hK K; try simp only [Act.put, List.setIfInBounds_toArray, List.set_cons_zero, List.set_cons_succ]
 refine wpAnyH_ready (rs := [3]) (by kernel_rfl) (by simp) (ac3 (fun K hK => ?_) (AllReadyH.nil))
 focus go_simp
 ·(refine (p2.out _).mono ?_; rintro e w1 ⟨rfl, rfl⟩; exact ⟨rfl, rfl, by first | exact Z2h0 | exact Below.drew Z2h0⟩)
theorem rat_no {x y : Int} {b h l b2 h2 l2} (hw : WV x b h l) (hw2 : WV y b2 h2 l2) (hxy : ¬ (In64 x ∧ In64 y)) (w : World) :
  Calls Tryz.prog 64 #[W b h l, W b2 h2 l2] w fun e w' => e = .panicked LargeP ∧ Below w.heap.size w w' := by
 by_cases hx : In64 x
 ·exact rat_no2 hw hw2 hx (fun hy => hxy ⟨hx, hy⟩) w
 ·exact rat_no1 hw hx w
end Go.Proofs.YtbpjnkeilhfajaaGreat.Num
end

section
/- Contracts of num: Make and its closure. -/
namespace Go.Proofs
theorem Zp2l {p q : Prop} (hq : q) (h : p = q := by first | (simp only [Act.put, List.setIfInBounds_toArray, List.set_cons_zero, List.set_cons_succ]; done) | (simp only [Act.put, List.setIfInBounds_toArray, List.set_cons_zero, List.set_cons_succ]; rfl) | rfl) : p := Eq.mpr h hq
theorem Z2l0 {p : Prop} (h : p := by kernel_rfl) : p := h
theorem Z2l1 {p : Prop} (h : p := by (simp [go_sem, hb, hc, bl, cl]; done)) : p := h
theorem Z2l5 {p : Prop} (h : p := by simp [go_sem, hb, hc, bl, cl]) : p := h
theorem Z2l2 {p : Prop} (h : p := by (first | (simp [go_sem, hb, hc, bl, cl]; done) | exact ⟨keepcell (by assumption) Z2l5, keepcell (by assumption) Z2l5⟩ | exact ⟨keepset (by omega) (keepset (by omega) (keepcell (by assumption) Z2l5)), keepset (by omega) (keepset (by omega) (keepcell (by assumption) Z2l5))⟩)) : p := h
theorem Z2l3 {p : Prop} (h : p := by repeat (first | exact Below.refl _ _ | with_reducible assumption | refine Below.alloc ?_ (by first | exact Nat.le_refl _ | (simp; done) | (simp; omega) | omega) _ | refine Below.setCell ?_ (by first | exact Nat.le_refl _ | (simp; done) | (simp; omega) | omega) _ | refine Below.drew ?_ | refine bdrewN ?_ _)) : p := h
theorem Z2l4 {p : Prop} (h : p := by first | exact Nat.le_refl _ | (simp; done) | (simp; omega) | omega) : p := h
end Go.Proofs
namespace Go.Proofs.YtbpjnkeilhfajaaGreat.Num
open Go.RowKit
set_option linter.unusedVariables false
set_option linter.unusedSimpArgs false
def lowP (p q : Int) : Int := if sg p q = true then -(sz p / Int.gcd p q) else sz p / Int.gcd p q
def lowQ (p q : Int) : Int := sz q / Int.gcd p q
theorem gcd_pos {p q : Int} (hq : q ≠ 0) : 0 < (Int.gcd p q : Int) := by
 have := Int.gcd_pos_of_ne_zero_right p hq
 omega
theorem wv_low1 (p q : Int) (hp : In64 p) (hq : q ≠ 0) : WV (lowP p q) (sg p q) 0 (sz p / Int.gcd p q) := by
 have g0 := gcd_pos (p := p) hq
 have a1 := sz_nonneg p
 have a2 := sz_le hp.1 hp.2
 have := Int.ediv_nonneg a1 (Int.le_of_lt g0)
 have := Int.ediv_le_self (Int.gcd p q : Int) a1
 refine ⟨by omega, by omega, by omega, by omega, ?_⟩
 unfold lowP
 simp
theorem wv_low2 (p q : Int) (hp : In64 q) (hq : q ≠ 0) : WV (lowQ p q) false 0 (sz q / Int.gcd p q) := by
 have g0 := gcd_pos (p := p) hq
 have a1 := sz_nonneg q
 have a2 := sz_le hp.1 hp.2
 have := Int.ediv_nonneg a1 (Int.le_of_lt g0)
 have := Int.ediv_le_self (Int.gcd p q : Int) a1
 refine ⟨by omega, by omega, by omega, by omega, ?_⟩
 unfold lowQ
 simp
theorem sg_spell (p q : Int) : (!(decide (p < 0) == decide (q < 0))) = sg p q := by
 unfold sg
 cases decide (p < 0) <;> cases decide (q < 0) <;> rfl
theorem div_spell {a g : Int} (ha : 0 ≤ a) (ha2 : a < 18446744073709551616) (hg : 0 < g) : IntKind.u64.wrap (a.tdiv g) = a / g := by
 rw [Int.tdiv_eq_ediv_of_nonneg ha, IntKind.wrap_u64]
 have := Int.ediv_nonneg ha (Int.le_of_lt hg)
 have := Int.ediv_le_self g ha
 omega
set_option maxHeartbeats 1000000 in
theorem make1_ok (p q : Int) (b c : Nat) (w : World) (hp : In64 p) (hq : In64 q) (h0 : q ≠ 0) (hb : w.cell? ⟨b, 0, none⟩ = some (.int .i64 p)) (hc : w.cell? ⟨c, 0, none⟩ = some (.int .i64 q)) (bl : b < w.heap.size) (cl : c < w.heap.size)
  (hP : In64 (lowP p q)) (hQ : In64 (lowQ p q)) :
  Calls Tryz.prog 61 #[.pointer (some ⟨b, 0, none⟩), .pointer (some ⟨c, 0, none⟩)] w fun e w' => e = .returned (RV (lowP p q) (lowQ p q)) ∧ Below w.heap.size w w' := by
 have s1 := Lib.hid (fun W0 => size_any p W0 hp.1 hp.2)
 have s2 := Lib.hid (fun W0 => size_any q W0 hq.1 hq.2)
 have a1 := sz_nonneg p
 have a2 := sz_le hp.1 hp.2
 have b1 := sz_nonneg q
 have b2 := sz_le hq.1 hq.2
 have gg := Lib.hid (fun W0 => gcd_any (sz p) (sz q) W0 a1 (by omega) b1 (by omega))
 have g0 := gcd_pos (p := p) h0
 have g1 := gcd_le a1 b1 (by omega) (by omega)
 rw [gcd_sz] at gg g1
 have hn : ¬ (Int.gcd p q : Int) = 0 := by omega
 have hn2 : ((Int.gcd p q : Int) == 0) = false := beq_eq_false_iff_ne.2 hn
 have rr := Lib.hid (fun W0 => rat_ok (wv_low1 p q hp h0) (wv_low2 p q hq h0) hP hQ W0)
 have hsg := sg_spell p q
 have hd1 := div_spell (g := (Int.gcd p q : Int)) a1 (by omega) g0
 have hd2 := div_spell (g := (Int.gcd p q : Int)) b1 (by omega) g0
 clear hp hq h0 hP hQ
 generalize (Int.gcd p q : Int) = g at *
 go_enter Tryz.func61, Tryz.ntmps61
 go_wp2
 refine wp_region_held_drew (S := (fun w' => w'.cell? ⟨b, 0, none⟩ = some (.int .i64 p) ∧ w'.cell? ⟨c, 0, none⟩ = some (.int .i64 q))) Z2l0 ?_ (fun hHeld => ?_)
 ·exact Z2l1
 iterate 2 (first | refine tk0.go ?_ | refine tk2.go ?_)
 refine wpAnyH_ready (rs := [1]) Z2l0 (by simp) (ac1 (fun K hK => ?_) (AllReadyH.nil))
 focus go_simp
 focus (refine (s1.out _).mono ?_; rintro e w1 ⟨rfl, rfl⟩)
 focus try simp only []
 refine hK.out _ _ ?_ (fun hHeld => ?_)
 ·exact Z2l1
 focus (clear hK K; refine Zp2l ?_)
 refine wpAnyH_ready (rs := [3]) Z2l0 (by simp) (ac3 (fun K hK => ?_) (AllReadyH.nil))
 focus go_simp
 focus (refine (s2.out _).mono ?_; rintro e w1 ⟨rfl, rfl⟩)
 focus try simp only []
 refine hK.out _ _ ?_ (fun hHeld => ?_)
 ·exact Z2l1
 focus (clear hK K; refine Zp2l ?_)
 refine wpAnyH_ready (rs := [4]) Z2l0 (by simp) (ac4 (fun K hK => ?_) (AllReadyH.nil))
 focus go_simp
 focus (refine (gg.out _).mono ?_; rintro e w1 ⟨rfl, n, rfl⟩)
 focus try simp only []
 refine hK.out _ _ ?_ (fun hHeld => ?_)
 ·exact Z2l1
 focus (clear hK K; refine Zp2l ?_)
 refine tk5.go ?_
 refine wpAnyH_done Z2l0 ?_ _; rotate_left 1
 go_wp2
 refine wp_region_held_drew (S := (fun w' => w'.cell? ⟨b, 0, none⟩ = some (.int .i64 p) ∧ w'.cell? ⟨c, 0, none⟩ = some (.int .i64 q))) Z2l0 ?_ (fun hHeld => ?_)
 ·exact Z2l2
 iterate 9 (first | refine tk0.go ?_ | refine tk1.go ?_ | refine tk2.go ?_ | refine tk3.go ?_ | refine tk4.go ?_ | refine tk5.go ?_ | refine tk7.go ?_ | refine tk10.go ?_ | refine tk12.go ?_)
 refine wpAnyH_ready (rs := [6]) Z2l0 (by simp) (ac6 (fun K hK => ?_) (AllReadyH.nil))
 focus go_simp
 focus (refine (s1.out _).mono ?_; rintro e w1 ⟨rfl, rfl⟩)
 focus try simp only []
 refine hK.out _ _ ?_ (fun hHeld => ?_)
 ·exact Z2l2
 focus (clear hK K; refine Zp2l ?_)
 iterate 2 (first | refine tk8.go ?_ | refine tk9.go ?_)
 refine wpAnyH_ready (rs := [11]) Z2l0 (by simp) (ac11 (fun K hK => ?_) (AllReadyH.nil))
 focus go_simp
 focus (refine (s2.out _).mono ?_; rintro e w1 ⟨rfl, rfl⟩)
 focus try simp only []
 refine hK.out _ _ ?_ (fun hHeld => ?_)
 ·exact Z2l2
 focus (clear hK K; refine Zp2l ?_)
 iterate 2 (first | refine tk13.go ?_ | refine tk14.go ?_)
 refine wpAnyH_ready (rs := [15]) Z2l0 (by simp) (ac15 (fun K hK => ?_) (AllReadyH.nil))
 focus go_simp
 focus (refine (rr.out _).mono ?_; rintro e w1 ⟨rfl, hb1⟩; obtain ⟨g1, g2, g3⟩ := bgrow hb1)
 focus try simp only []
 refine hK.out _ _ ?_ (fun hHeld => ?_)
 ·exact Z2l2
 focus (clear hK K; refine Zp2l ?_)
 refine wpAnyH_ready (rs := [16]) Z2l0 (by simp) (ac16 (fun K hK => ?_) (AllReadyH.nil))
 focus go_simp
 refine hK.out _ _ ?_ (fun hHeld => ?_)
 ·exact Z2l2
 focus (clear hK K; refine Zp2l ?_)
 refine wpAnyH_done Z2l0 ?_ _; rotate_left 1
 go_wp2
 have hbw : Below w.heap.size w w1 := Below.trans (b := (w.alloc (Obj.cells #[Value.int IntKind.i64 0, Value.int IntKind.i64 0] 28)).drewN (1 + n + 1)) Z2l3 (hb1.mono Z2l4)
 have k0 : w1.cell? ⟨w.heap.size, 0, none⟩ = some (.int .i64 0) := by rw [g1 _ _ Z2l4]; simp [go_sem]
 have k1 : w1.cell? ⟨w.heap.size, 1, none⟩ = some (.int .i64 0) := by rw [g1 _ _ Z2l4]; simp [go_sem]
 exact bodyPost_ret (v := RV (lowP p q) (lowQ p q)) (by simp [results, Tryz.results61, go_sem, k0, k1]) rfl ⟨rfl, Z2l3⟩
set_option maxHeartbeats 1000000 in
theorem make1_no (p q : Int) (b c : Nat) (w : World) (hp : In64 p) (hq : In64 q) (h0 : q ≠ 0) (hb : w.cell? ⟨b, 0, none⟩ = some (.int .i64 p)) (hc : w.cell? ⟨c, 0, none⟩ = some (.int .i64 q)) (bl : b < w.heap.size) (cl : c < w.heap.size)
  (hPQ : ¬ (In64 (lowP p q) ∧ In64 (lowQ p q))) :
  Calls Tryz.prog 61 #[.pointer (some ⟨b, 0, none⟩), .pointer (some ⟨c, 0, none⟩)] w fun e w' => e = .panicked LargeP ∧ Below w.heap.size w w' := by
 have s1 := Lib.hid (fun W0 => size_any p W0 hp.1 hp.2)
 have s2 := Lib.hid (fun W0 => size_any q W0 hq.1 hq.2)
 have a1 := sz_nonneg p
 have a2 := sz_le hp.1 hp.2
 have b1 := sz_nonneg q
 have b2 := sz_le hq.1 hq.2
 have gg := Lib.hid (fun W0 => gcd_any (sz p) (sz q) W0 a1 (by omega) b1 (by omega))
 have g0 := gcd_pos (p := p) h0
 have g1 := gcd_le a1 b1 (by omega) (by omega)
 rw [gcd_sz] at gg g1
 have hn : ¬ (Int.gcd p q : Int) = 0 := by omega
 have hn2 : ((Int.gcd p q : Int) == 0) = false := beq_eq_false_iff_ne.2 hn
 have rr := Lib.hid (fun W0 => rat_no (wv_low1 p q hp h0) (wv_low2 p q hq h0) hPQ W0)
 have hsg := sg_spell p q
 have hd1 := div_spell (g := (Int.gcd p q : Int)) a1 (by omega) g0
 have hd2 := div_spell (g := (Int.gcd p q : Int)) b1 (by omega) g0
 clear hp hq h0 hPQ
 generalize (Int.gcd p q : Int) = g at *
 go_enter Tryz.func61, Tryz.ntmps61
 go_wp2
 refine wp_region_held_drew (S := (fun w' => w'.cell? ⟨b, 0, none⟩ = some (.int .i64 p) ∧ w'.cell? ⟨c, 0, none⟩ = some (.int .i64 q))) Z2l0 ?_ (fun hHeld => ?_)
 ·exact Z2l1
 iterate 2 (first | refine tk0.go ?_ | refine tk2.go ?_)
 refine wpAnyH_ready (rs := [1]) Z2l0 (by simp) (ac1 (fun K hK => ?_) (AllReadyH.nil))
 focus go_simp
 focus (refine (s1.out _).mono ?_; rintro e w1 ⟨rfl, rfl⟩)
 focus try simp only []
 refine hK.out _ _ ?_ (fun hHeld => ?_)
 ·exact Z2l1
 focus (clear hK K; refine Zp2l ?_)
 refine wpAnyH_ready (rs := [3]) Z2l0 (by simp) (ac3 (fun K hK => ?_) (AllReadyH.nil))
 focus go_simp
 focus (refine (s2.out _).mono ?_; rintro e w1 ⟨rfl, rfl⟩)
 focus try simp only []
 refine hK.out _ _ ?_ (fun hHeld => ?_)
 ·exact Z2l1
 focus (clear hK K; refine Zp2l ?_)
 refine wpAnyH_ready (rs := [4]) Z2l0 (by simp) (ac4 (fun K hK => ?_) (AllReadyH.nil))
 focus go_simp
 focus (refine (gg.out _).mono ?_; rintro e w1 ⟨rfl, n, rfl⟩)
 focus try simp only []
 refine hK.out _ _ ?_ (fun hHeld => ?_)
 ·exact Z2l1
 focus (clear hK K; refine Zp2l ?_)
 refine tk5.go ?_
 refine wpAnyH_done Z2l0 ?_ _; rotate_left 1
 go_wp2
 refine wp_region_held_drew (S := (fun w' => w'.cell? ⟨b, 0, none⟩ = some (.int .i64 p) ∧ w'.cell? ⟨c, 0, none⟩ = some (.int .i64 q))) Z2l0 ?_ (fun hHeld => ?_)
 ·exact Z2l2
 iterate 9 (first | refine tk0.go ?_ | refine tk1.go ?_ | refine tk2.go ?_ | refine tk3.go ?_ | refine tk4.go ?_ | refine tk5.go ?_ | refine tk7.go ?_ | refine tk10.go ?_ | refine tk12.go ?_)
 refine wpAnyH_ready (rs := [6]) Z2l0 (by simp) (ac6 (fun K hK => ?_) (AllReadyH.nil))
 focus go_simp
 focus (refine (s1.out _).mono ?_; rintro e w1 ⟨rfl, rfl⟩)
 focus try simp only []
 refine hK.out _ _ ?_ (fun hHeld => ?_)
 ·exact Z2l2
 focus (clear hK K; refine Zp2l ?_)
 iterate 2 (first | refine tk8.go ?_ | refine tk9.go ?_)
 refine wpAnyH_ready (rs := [11]) Z2l0 (by simp) (ac11 (fun K hK => ?_) (AllReadyH.nil))
 focus go_simp
 focus (refine (s2.out _).mono ?_; rintro e w1 ⟨rfl, rfl⟩)
 focus try simp only []
 refine hK.out _ _ ?_ (fun hHeld => ?_)
 ·exact Z2l2
 focus (clear hK K; refine Zp2l ?_)
 iterate 2 (first | refine tk13.go ?_ | refine tk14.go ?_)
 refine wpAnyH_ready (rs := [15]) Z2l0 (by simp) (ac15 (fun K hK => ?_) (AllReadyH.nil))
 focus go_simp
 ·(refine (rr.out _).mono ?_; rintro e w1 ⟨rfl, hb1⟩; exact ⟨rfl, rfl, Below.trans (b := (w.alloc (Obj.cells #[Value.int IntKind.i64 0, Value.int IntKind.i64 0] 28)).drewN (1 + n + 1)) Z2l3 (hb1.mono Z2l4)⟩)
end Go.Proofs.YtbpjnkeilhfajaaGreat.Num
end

section
/- Contracts of num: Make. -/
namespace Go.Proofs
theorem Z2m0 {p : Prop} (h : p := by repeat (first | exact Below.refl _ _ | with_reducible assumption | refine Below.alloc ?_ (by first | exact Nat.le_refl _ | (simp; done) | (simp; omega) | omega) _ | refine Below.setCell ?_ (by first | exact Nat.le_refl _ | (simp; done) | (simp; omega) | omega) _ | refine Below.drew ?_ | refine bdrewN ?_ _)) : p := h
theorem Z2m1 {p : Prop} (h : p := by first | exact Nat.le_refl _ | (simp; done) | (simp; omega) | omega) : p := h
end Go.Proofs
namespace Go.Proofs.YtbpjnkeilhfajaaGreat.Num
open Go.RowKit
set_option linter.unusedVariables false
set_option linter.unusedSimpArgs false
instance (a : Int) : Decidable (In64 a) := inferInstanceAs (Decidable (_ ∧ _))
def mk (p q : Int) : Int × Int × Bool := if q = 0 then (0, 0, false) else if In64 (lowP p q) ∧ In64 (lowQ p q) then (lowP p q, lowQ p q, true) else (0, 0, false)
@[reducible, go_sem] def RB (r : Int × Int × Bool) : Value := .tuple #[RV r.1 r.2.1, .bool r.2.2]
theorem cf_make1 (args : Array Value) (w : World) : (callFunc 61 args).run Tryz.prog w = .ok (.enter 61 args) w := by kernel_rfl
set_option maxHeartbeats 1000000 in
theorem Make_any (p q : Int) (w : World) (hp : In64 p) (hq : In64 q) :
  Calls Tryz.prog 24 #[.int .i64 p, .int .i64 q] w fun e w' => e = .returned (RB (mk p q)) ∧ Below w.heap.size w w' := by
 have hmf := run_makeFunc
 by_cases h0 : q = 0
 ·subst h0
  have hm : mk p 0 = (0, 0, false) := if_pos rfl
  rw [hm]
  clear hm
  go_enter Tryz.func24, Tryz.ntmps24
  go_wp2
  exact bodyPost_ret (v := RB (0, 0, false)) (by simp [results, Tryz.results24, go_sem, RB]) rfl ⟨rfl, Z2m0⟩
 ·have e0 : (q == 0) = false := beq_eq_false_iff_ne.2 h0
  by_cases hPQ : In64 (lowP p q) ∧ In64 (lowQ p q)
  ·have hm : mk p q = (lowP p q, lowQ p q, true) := by unfold mk; rw [if_neg h0, if_pos hPQ]
   rw [hm]
   clear hm
   have ff := Lib.hid (fun (W0 : World) (b c : Nat) (hb : W0.cell? ⟨b, 0, none⟩ = some (.int .i64 p)) (hc : W0.cell? ⟨c, 0, none⟩ = some (.int .i64 q)) (bl : b < W0.heap.size) (cl : c < W0.heap.size) =>
    fitsR_ok 61 #[.pointer (some ⟨b, 0, none⟩), .pointer (some ⟨c, 0, none⟩)] (lowP p q) (lowQ p q) W0 (cf_make1 _) (fun W1 hW => make1_ok p q b c W1 hp hq h0 (keepcell hW hb) (keepcell hW hc) (Nat.lt_of_lt_of_le bl hW.size) (Nat.lt_of_lt_of_le cl hW.size) hPQ.1 hPQ.2))
   clear h0 hPQ
   go_enter Tryz.func24, Tryz.ntmps24
   go_wp2_with fail
   refine (ff.out _ _ _ (by simp [go_sem]) (by simp [go_sem]) Z2m1 Z2m1).mono ?_
   rintro e w1 ⟨rfl, hb1⟩
   obtain ⟨g1, g2, g3⟩ := bgrow hb1
   have hbw : Below w.heap.size w w1 := by refine Below.trans ?_ (hb1.mono Z2m1); exact Z2m0
   have k0 : w1.cell? ⟨w.heap.size + 1 + 1, 0, none⟩ = some (.int .i64 0) := by rw [g1 _ _ Z2m1]; simp [go_sem]
   have k1 : w1.cell? ⟨w.heap.size + 1 + 1, 1, none⟩ = some (.int .i64 0) := by rw [g1 _ _ Z2m1]; simp [go_sem]
   go_wp2
   exact bodyPost_ret (v := RB (lowP p q, lowQ p q, true)) (by simp [results, Tryz.results24, go_sem, RB, k0, k1]) rfl ⟨rfl, Z2m0⟩
  ·have hm : mk p q = (0, 0, false) := by unfold mk; rw [if_neg h0, if_neg hPQ]
   rw [hm]
   clear hm
   have ff := Lib.hid (fun (W0 : World) (b c : Nat) (hb : W0.cell? ⟨b, 0, none⟩ = some (.int .i64 p)) (hc : W0.cell? ⟨c, 0, none⟩ = some (.int .i64 q)) (bl : b < W0.heap.size) (cl : c < W0.heap.size) =>
    fitsR_no 61 #[.pointer (some ⟨b, 0, none⟩), .pointer (some ⟨c, 0, none⟩)] W0 (cf_make1 _) (fun W1 hW => make1_no p q b c W1 hp hq h0 (keepcell hW hb) (keepcell hW hc) (Nat.lt_of_lt_of_le bl hW.size) (Nat.lt_of_lt_of_le cl hW.size) hPQ))
   clear h0 hPQ
   go_enter Tryz.func24, Tryz.ntmps24
   go_wp2_with fail
   refine (ff.out _ _ _ (by simp [go_sem]) (by simp [go_sem]) Z2m1 Z2m1).mono ?_
   rintro e w1 ⟨rfl, hb1⟩
   obtain ⟨g1, g2, g3⟩ := bgrow hb1
   have hbw : Below w.heap.size w w1 := by refine Below.trans ?_ (hb1.mono Z2m1); exact Z2m0
   have k0 : w1.cell? ⟨w.heap.size + 1 + 1, 0, none⟩ = some (.int .i64 0) := by rw [g1 _ _ Z2m1]; simp [go_sem]
   have k1 : w1.cell? ⟨w.heap.size + 1 + 1, 1, none⟩ = some (.int .i64 0) := by rw [g1 _ _ Z2m1]; simp [go_sem]
   go_wp2
   exact bodyPost_ret (v := RB (0, 0, false)) (by simp [results, Tryz.results24, go_sem, RB, k0, k1]) rfl ⟨rfl, Z2m0⟩
end Go.Proofs.YtbpjnkeilhfajaaGreat.Num
end
