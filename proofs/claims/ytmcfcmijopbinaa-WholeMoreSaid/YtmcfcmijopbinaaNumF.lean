import Derived.Test.YtmcfcmijopbinaaNumP
import Derived.Test.YtmcfcmijopbinaaTk
section
/- Contracts of num: Add, Sub, Mul, Neg, Gcd, Cmp. -/
namespace Go.Proofs
theorem Z2a0 {p : Prop} (h : p := by repeat (first | exact Below.refl _ _ | with_reducible assumption | refine Below.alloc ?_ (by first | exact Nat.le_refl _ | (simp; done) | (simp; omega) | omega) _ | refine Below.setCell ?_ (by first | exact Nat.le_refl _ | (simp; done) | (simp; omega) | omega) _ | refine Below.drew ?_ | refine bdrewN ?_ _)) : p := h
theorem Z2a1 {p : Prop} (h : p := by with_reducible assumption) : p := h
theorem Z2a2 {p : Prop} (h : p := by simp [go_sem]) : p := h
theorem Z2a3 {p : Prop} (h : p := by first | exact Nat.le_refl _ | (simp; done) | (simp; omega) | omega) : p := h
theorem Z2a4 {p : Prop} (h : p := by have := hx'.out; unfold cmpI; simp at this; rw [if_neg (by omega), if_neg (by omega)]) : p := h
end Go.Proofs
namespace Go.Proofs.Ytmcfcmijopbinaa.Num
open Go.RowKit
set_option linter.unusedVariables false
set_option linter.unusedSimpArgs false
def In64 (a : Int) : Prop := -9223372036854775808 ≤ a ∧ a < 9223372036854775808
theorem wv_of {a : Int} (h : In64 a) : WV a (decide (a < 0)) 0 (sz a) := by
 obtain ⟨h1, h2⟩ := h
 unfold WV sz
 refine ⟨by omega, by omega, by split <;> omega, by split <;> omega, ?_⟩
 by_cases hn : a < 0
 ·simp [hn]
 ·simp [hn]
theorem wv_neg {x : Int} {b h l} (hw : WV x b h l) : WV (-x) (!b) h l := by
 obtain ⟨h0, h1, l0, l1, hv⟩ := hw
 refine ⟨h0, h1, l0, l1, ?_⟩
 rw [hv]; cases b <;> simp
theorem sz_mul (a b : Int) : (if sg a b = true then -(sz a * sz b) else sz a * sz b) = a * b := by
 unfold sz sg
 by_cases ha : a < 0 <;> by_cases hb : b < 0 <;> simp [ha, hb, Int.neg_mul, Int.mul_neg]
theorem wv_mul {a b : Int} (ha : In64 a) (hb : In64 b) : WV (a * b) (sg a b) (sz a * sz b / 18446744073709551616) (sz a * sz b % 18446744073709551616) := by
 have a0 := sz_nonneg a
 have b0 := sz_nonneg b
 have a1 := sz_le ha.1 ha.2
 have b1 := sz_le hb.1 hb.2
 have hm := mul_bound a0 a1 b0 b1
 refine ⟨by omega, by omega, by omega, by omega, ?_⟩
 rw [← sz_mul a b]
 split <;> omega
theorem wv_mul_small {a b : Int} (ha : In64 a) (hb : In64 b) : (sz a * sz b / 18446744073709551616) * 18446744073709551616 + sz a * sz b % 18446744073709551616 ≤ 85070591730234615865843651857942052864 := by
 have hm := mul_bound (sz_nonneg a) (sz_le ha.1 ha.2) (sz_nonneg b) (sz_le hb.1 hb.2)
 omega
theorem Add_any (a b : Int) (w : World) (ha : In64 a) (hb : In64 b) :
  Calls Try.prog 41 #[.int .i64 a, .int .i64 b] w fun e w' => e = .returned (.tuple #[.int .i64 (fitp (a + b)).1, .bool (fitp (a + b)).2]) ∧ Below w.heap.size w w' := by
 have o1 := fun W0 => of_any a W0 ha.1 ha.2
 have o2 := fun W0 => of_any b W0 hb.1 hb.2
 have s1 := sz_le ha.1 ha.2
 have s2 := sz_le hb.1 hb.2
 have p := fun W0 => plus_any a b _ _ _ _ _ _ W0 (wv_of ha) (wv_of hb) (by omega)
 have p' := Lib.hid p
 have o1' := Lib.hid o1
 have o2' := Lib.hid o2
 clear p o1 o2 s1 s2 ha hb
 go_enter Try.func41, Try.ntmps41
 go_wp2_with fail
 refine (o1'.out _).mono ?_
 rintro e w1 ⟨rfl, hb1⟩
 go_wp2_with fail
 refine (o2'.out _).mono ?_
 rintro e w2 ⟨rfl, hb2⟩
 go_wp2_with fail
 refine (p'.out _).mono ?_
 rintro e w3 ⟨⟨b3, h3, l3, rfl, hv⟩, hb3⟩
 have hv' := Lib.hid hv
 clear hv
 go_wp2_with fail
 refine (whole_any hv'.out _).mono ?_
 rintro e w4 ⟨rfl, hb4⟩
 go_wp2
 go_ret2
 exact ⟨rfl, hb1.trans ((hb2.mono hb1.size).trans ((hb3.mono (Nat.le_trans hb1.size hb2.size)).trans (hb4.mono (Nat.le_trans hb1.size (Nat.le_trans hb2.size hb3.size)))))⟩
theorem bthen {w w1 w2 : World} (h1 : Below w.heap.size w w1) (h2 : Below w1.heap.size w1 w2) : Below w.heap.size w w2 := h1.trans (h2.mono h1.size)
theorem bdrew (w : World) (n : Nat) : Below w.heap.size w (w.drewN n) := ⟨rfl, rfl, rfl, Nat.le_refl _, fun _ _ => rfl⟩
theorem Mul_any (a b : Int) (w : World) (ha : In64 a) (hb : In64 b) :
  Calls Try.prog 40 #[.int .i64 a, .int .i64 b] w fun e w' => e = .returned (.tuple #[.int .i64 (fitp (a * b)).1, .bool (fitp (a * b)).2]) ∧ Below w.heap.size w w' := by
 have p' := Lib.hid (fun W0 => product_any a b W0 ha.1 ha.2 hb.1 hb.2)
 have hv := Lib.hid (wv_mul ha hb)
 clear ha hb
 go_enter Try.func40, Try.ntmps40
 go_wp2_with fail
 refine (p'.out _).mono ?_
 rintro e w1 ⟨rfl, hw1⟩
 have hb1 : Below w.heap.size w w1 := by rw [hw1]; exact Z2a0
 clear hw1
 go_wp2_with fail
 refine (whole_any hv.out _).mono ?_
 rintro e w2 ⟨rfl, hb2⟩
 go_wp2
 go_ret2
 exact ⟨rfl, bthen hb1 hb2⟩
theorem Neg_any (a : Int) (w : World) (ha : In64 a) :
  Calls Try.prog 17 #[.int .i64 a] w fun e w' => e = .returned (.tuple #[.int .i64 (fitp (-a)).1, .bool (fitp (-a)).2]) ∧ Below w.heap.size w w' := by
 have o1' := Lib.hid (fun W0 => of_any a W0 ha.1 ha.2)
 have hv := Lib.hid (wv_neg (wv_of ha))
 clear ha
 go_enter Try.func17, Try.ntmps17
 go_wp2_with fail
 refine (o1'.out _).mono ?_
 rintro e w1 ⟨rfl, hb1⟩
 go_wp2_with fail
 refine (neg_any _ _ _ _).mono ?_
 rintro e w2 ⟨rfl, hw2⟩
 have hb2 : Below w1.heap.size w1 w2 := by rw [hw2]; exact Z2a0
 clear hw2
 go_wp2_with fail
 refine (whole_any hv.out _).mono ?_
 rintro e w3 ⟨rfl, hb3⟩
 go_wp2
 go_ret2
 exact ⟨rfl, bthen (bthen hb1 hb2) hb3⟩
theorem gcd_le {a b : Int} (ha : 0 ≤ a) (hb : 0 ≤ b) (h : a < 18446744073709551616) (h2 : b < 18446744073709551616) : (Int.gcd a b : Int) < 18446744073709551616 := by
 by_cases h0 : a = 0
 ·subst h0; rw [Int.gcd_zero_left]; omega
 ·have := Int.gcd_le_natAbs_left (b := b) h0
  omega
theorem gcd_sz (a b : Int) : Int.gcd (sz a) (sz b) = Int.gcd a b := by
 unfold sz
 split <;> split <;> simp
theorem Gcd_any (a b : Int) (w : World) (ha : In64 a) (hb : In64 b) :
  Calls Try.prog 51 #[.int .i64 a, .int .i64 b] w fun e w' => e = .returned (.tuple #[.int .i64 (fitp (Int.gcd a b)).1, .bool (fitp (Int.gcd a b)).2]) ∧ Below w.heap.size w w' := by
 have o1' := Lib.hid (fun W0 => size_any a W0 ha.1 ha.2)
 have o2' := Lib.hid (fun W0 => size_any b W0 hb.1 hb.2)
 have s1 := sz_le ha.1 ha.2
 have s2 := sz_le hb.1 hb.2
 have s3 := sz_nonneg a
 have s4 := sz_nonneg b
 have g' := Lib.hid (fun W0 => gcd_any (sz a) (sz b) W0 s3 (by omega) s4 (by omega))
 have hg := gcd_le s3 s4 (by omega) (by omega)
 rw [gcd_sz] at g' hg
 have hv : WV (Int.gcd a b) false 0 (Int.gcd a b) := ⟨by omega, by omega, by omega, by omega, by simp⟩
 have hv' := Lib.hid hv
 clear s1 s2 s3 s4 hg ha hb hv
 go_enter Try.func51, Try.ntmps51
 go_wp2_with fail
 refine (o1'.out _).mono ?_
 rintro e w1 ⟨rfl, rfl⟩
 go_wp2_with fail
 refine (o2'.out _).mono ?_
 rintro e w1 ⟨rfl, rfl⟩
 go_wp2_with fail
 refine (g'.out _).mono ?_
 rintro e w1 ⟨rfl, n, rfl⟩
 go_wp2_with fail
 refine (whole_any hv'.out _).mono ?_
 rintro e w3 ⟨rfl, hb3⟩
 go_wp2
 go_ret2
 exact ⟨rfl, bthen (bdrew _ n) hb3⟩
theorem Whole_any (a : Int) (w : World) : Calls Try.prog 44 #[.int .i64 a] w fun e w' => e = .returned (.agg #[.int .i64 a, .int .i64 1]) ∧ Below w.heap.size w w' := by
 go_enter Try.func44, Try.ntmps44
 go_wp2
 exact bodyPost_ret (v := .agg #[.int .i64 a, .int .i64 1]) (by simp [results, Try.results44, go_sem]) rfl ⟨rfl, Z2a0⟩
theorem right_any (p q : Int) (w : World) : Calls Try.prog 38 #[.agg #[.int .i64 p, .int .i64 q]] w fun e w' => e = .returned (.bool (decide (0 < q))) ∧ w' = w.alloc (.cells #[.int .i64 p, .int .i64 q] 43) := by
 go_enter Try.func38, Try.ntmps38
 go_wp2
 go_ret
 exact ⟨rfl, rfl⟩
def cmpI (x : Int) : Int := if x < 0 then -1 else if x = 0 then 0 else 1
theorem keepcell {W w1 : World} (hb : Below W.heap.size W w1) {b o : Nat} {v : Value} (h : W.cell? ⟨b, o, none⟩ = some v) : w1.cell? ⟨b, o, none⟩ = some v := by
 rw [hb.cell (p := ⟨b, o, none⟩) ?_, h]
 show b < W.heap.size
 by_cases hlt : b < W.heap.size
 ·exact hlt
 ·rw [World.cell?, Array.getElem?_eq_none (Nat.not_lt.1 hlt)] at h
  simp at h
theorem keepalloc {W : World} {o : Obj} {b i : Nat} {v : Value} (h : W.cell? ⟨b, i, none⟩ = some v) : (W.alloc o).cell? ⟨b, i, none⟩ = some v := by
 rw [World.cell?_alloc_some _ _ _ (by rw [h]; rfl), h]
theorem keepset {W : World} {g k b i : Nat} {u v : Value} (hb : b ≠ g) (h : W.cell? ⟨b, i, none⟩ = some v) : (W.setCell ⟨g, k, none⟩ u).cell? ⟨b, i, none⟩ = some v := by
 rw [World.cell?_setCell_far _ _ _ _ (Ne.symm hb), h]
theorem bgrow {W w1 : World} (hb : Below W.heap.size W w1) : (∀ b o, b < W.heap.size → w1.cell? ⟨b, o, none⟩ = W.cell? ⟨b, o, none⟩) ∧ (∀ b o, b < W.heap.size → w1.frozen? ⟨b, o, none⟩ = W.frozen? ⟨b, o, none⟩) ∧ ∀ b, b < W.heap.size → b < w1.heap.size :=
 ⟨(bcell hb).1, (bcell hb).2, fun b h => Nat.lt_of_lt_of_le h hb.size⟩
set_option maxHeartbeats 4000000 in
theorem Cmp_any (p q r s : Int) (w : World) (hp : In64 p) (hq : In64 q) (hr : In64 r) (hs : In64 s) :
  Calls Try.prog 47 #[.agg #[.int .i64 p, .int .i64 q], .agg #[.int .i64 r, .int .i64 s]] w fun e w' => e = .returned (.int .i64 (cmpI (p * s - r * q))) ∧ Below w.heap.size w w' := by
 have p1 := Lib.hid (fun W0 => product_any p s W0 hp.1 hp.2 hs.1 hs.2)
 have p2 := Lib.hid (fun W0 => product_any r q W0 hr.1 hr.2 hq.1 hq.2)
 have v1 := wv_mul hp hs
 have v2 := wv_neg (wv_mul hr hq)
 have m1 := wv_mul_small hp hs
 have m2 := wv_mul_small hr hq
 have pl := Lib.hid (fun W0 => plus_any _ _ _ _ _ _ _ _ W0 v1 v2 (by omega))
 clear v1 v2 m1 m2
 go_enter Try.func47, Try.ntmps47
 go_wp2
 go_region_held3 (fun w' => w'.cell? ⟨w.heap.size, 0, none⟩ = some (.int .i64 p) ∧ w'.cell? ⟨w.heap.size, 1, none⟩ = some (.int .i64 q) ∧ w'.cell? ⟨w.heap.size + 1, 0, none⟩ = some (.int .i64 r) ∧ w'.cell? ⟨w.heap.size + 1, 1, none⟩ = some (.int .i64 s))
  (first | (simp [go_sem]; done) | (go_split_ands; with_reducible exact ⟨keepcell Z2a1 Z2a2, keepcell Z2a1 Z2a2, keepcell Z2a1 Z2a2, keepcell Z2a1 Z2a2⟩) | (go_split_ands; with_reducible exact ⟨keepalloc (keepcell Z2a1 Z2a2), keepalloc (keepcell Z2a1 Z2a2), keepalloc (keepcell Z2a1 Z2a2), keepalloc (keepcell Z2a1 Z2a2)⟩) | (go_split_ands; with_reducible exact ⟨keepset (by omega) (keepset (by omega) (keepset (by omega) (keepcell Z2a1 Z2a2))), keepset (by omega) (keepset (by omega) (keepset (by omega) (keepcell Z2a1 Z2a2))), keepset (by omega) (keepset (by omega) (keepset (by omega) (keepcell Z2a1 Z2a2))), keepset (by omega) (keepset (by omega) (keepset (by omega) (keepcell Z2a1 Z2a2)))⟩))
  (first | ((with_reducible refine (p1.out _).mono ?_); rintro e w1 ⟨rfl, rfl⟩) | ((with_reducible refine (p2.out _).mono ?_); rintro e w2 ⟨rfl, rfl⟩) | ((with_reducible refine (neg_any _ _ _ _).mono ?_); rintro e w3 ⟨rfl, rfl⟩) | ((with_reducible refine (pl.out _).mono ?_); rintro e w4 ⟨⟨b3, h3, l3, rfl, hv⟩, hb4⟩; have hv' := Lib.hid hv; clear hv; obtain ⟨g1, g2, g3⟩ := bgrow hb4))
 all_goals
  have hbw : Below w.heap.size w w4 := Below.trans (by first | exact Z2a0 | exact Below.drew Z2a0) (hb4.mono Z2a3)
  have hz : w.heap.size + 2 ≤ w4.heap.size := by have := hb4.size; simp at this; omega
  obtain ⟨h0, h1, l0, l1, hx⟩ := hv'.out
  have hx' := Lib.hid hx
  clear hx hb4 p1 p2 pl
  by_cases c1 : h3 = 0
  ·subst c1
   by_cases c2 : l3 = 0
   ·subst c2
    go_wp2
    go_ret
    exact ⟨ret_int (by have := hx'.out; unfold cmpI; cases b3 <;> simp at this <;> (rw [if_neg (by omega), if_pos (by omega)])), Z2a0⟩
   ·have e2 : (l3 == 0) = false := beq_eq_false_iff_ne.2 c2
    cases b3
    ·go_wp2
     go_ret
     exact ⟨ret_int Z2a4, Z2a0⟩
    ·go_wp2
     go_ret
     exact ⟨ret_int (by have := hx'.out; unfold cmpI; simp at this; rw [if_pos (by omega)]), Z2a0⟩
  ·have e2 : (h3 == 0) = false := beq_eq_false_iff_ne.2 c1
   cases b3
   ·go_wp2
    go_ret
    exact ⟨ret_int Z2a4, Z2a0⟩
   ·go_wp2
    go_ret
    exact ⟨ret_int (by have := hx'.out; unfold cmpI; simp at this; rw [if_pos (by omega)]), Z2a0⟩
end Go.Proofs.Ytmcfcmijopbinaa.Num
end

section
/- Contracts of linear: must, fits and what it catches, sign. -/
namespace Go.Proofs
theorem Z170 {p : Prop} (h : p := by repeat (first | exact Below.refl _ _ | with_reducible assumption | refine Below.alloc ?_ (by first | exact Nat.le_refl _ | (simp; done) | (simp; omega) | omega) _ | refine Below.setCell ?_ (by first | exact Nat.le_refl _ | (simp; done) | (simp; omega) | omega) _ | refine Below.drew ?_ | refine bdrewN ?_ _)) : p := h
end Go.Proofs
namespace Go.Proofs.Ytmcfcmijopbinaa.Ln
open Go.RowKit Go.Proofs.Ytmcfcmijopbinaa.Num
set_option linter.unusedVariables false
set_option linter.unusedSimpArgs false
theorem run_largeL (w : World) : (Instr.panic (Value.iface 75 (Value.agg #[]))).run Try.prog w = .halt (.panic (Value.iface 75 (Value.agg #[]))) w := by kernel_rfl
def LargeL : List PanicEntry := [{ v := .iface 75 (.agg #[]), recovered := false }]
theorem mustR_ok (p q : Int) (w : World) :
  Calls Try.prog 49 #[.agg #[.int .i64 p, .int .i64 q], .bool true] w fun e w' => e = .returned (.agg #[.int .i64 p, .int .i64 q]) ∧ Below w.heap.size w w' := by
 go_enter Try.func49, Try.ntmps49
 go_wp2
 simp [bodyPost, results, Try.results49, go_sem]
 exact Z170
theorem mustR_no (p q : Int) (w : World) :
  Calls Try.prog 49 #[.agg #[.int .i64 p, .int .i64 q], .bool false] w fun e w' => e = .panicked LargeL ∧ Below w.heap.size w w' := by
 have hp := run_largeL
 go_enter Try.func49, Try.ntmps49
 go_wp2
 exact ⟨rfl, rfl, Z170⟩
theorem must64_ok (p : Int) (w : World) :
  Calls Try.prog 45 #[.int .i64 p, .bool true] w fun e w' => e = .returned (.int .i64 p) ∧ w' = w := by
 go_enter Try.func45, Try.ntmps45
 go_wp2
 go_ret
 exact ⟨rfl, rfl⟩
theorem must64_no (p : Int) (w : World) :
  Calls Try.prog 45 #[.int .i64 p, .bool false] w fun e w' => e = .panicked LargeL ∧ w' = w := by
 have hp := run_largeL
 go_enter Try.func45, Try.ntmps45
 go_wp2
 exact ⟨rfl, rfl, rfl⟩
structure Fp (S : Nat → Prop) (w w' : World) : Prop where
 os : w'.os = w.os
 tape : w'.tape = w.tape
 output : w'.output = w.output
 size : w.heap.size ≤ w'.heap.size
 block : ∀ k, k < w.heap.size → ¬ S k → w'.heap[k]? = w.heap[k]?
namespace Fp
variable {S T : Nat → Prop} {w w' w'' : World}
theorem refl (S : Nat → Prop) (w : World) : Fp S w w := ⟨rfl, rfl, rfl, Nat.le_refl _, fun _ _ _ => rfl⟩
theorem trans (h : Fp S w w') (k : Fp T w' w'') (hT : ∀ i, i < w.heap.size → T i → S i) : Fp S w w'' :=
 ⟨k.os.trans h.os, k.tape.trans h.tape, k.output.trans h.output, Nat.le_trans h.size k.size, fun i hi hn => (k.block i (Nat.lt_of_lt_of_le hi h.size) (fun t => hn (hT i hi t))).trans (h.block i hi hn)⟩
theorem tr (h : Fp S w w') (k : Fp S w' w'') : Fp S w w'' := h.trans k fun _ _ h => h
theorem imp (h : Fp S w w') (hT : ∀ i, i < w.heap.size → S i → T i) : Fp T w w' := ⟨h.os, h.tape, h.output, h.size, fun i hi hn => h.block i hi fun t => hn (hT i hi t)⟩
theorem of_below (h : Below w.heap.size w w') : Fp S w w' := ⟨h.os, h.tape, h.output, h.size, fun k hk _ => h.block k hk⟩
theorem below (h : Fp S w w') {b : Nat} (hb : b ≤ w.heap.size) (hS : ∀ i, i < b → ¬ S i) : Below b w w' := ⟨h.os, h.tape, h.output, h.size, fun k hk => h.block k (Nat.lt_of_lt_of_le hk hb) (hS k hk)⟩
theorem alloc (h : Fp S w w') (o : Obj) : Fp S w (w'.alloc o) := h.trans (of_below (S := S) ((Below.refl _ _).alloc (Nat.le_refl _) _)) fun _ _ h => h
theorem setCell (h : Fp S w w') {a : Addr} (ha : a.block < w.heap.size → S a.block) (v : Value) : Fp S w (w'.setCell a v) :=
 h.trans (T := fun k => k = a.block) ⟨rfl, rfl, rfl, by simp, fun k hk hn => Below.heap_setCell w' a v k hn⟩ (by rintro i hi rfl; exact ha hi)
theorem drewN (h : Fp S w w') (n : Nat) : Fp S w (w'.drewN n) := ⟨h.os, h.tape, h.output, h.size, h.block⟩
end Fp
theorem assert_largeL (w : World) : (Instr.typeAssert (.iface 75 (.agg #[])) 20 75 true).run Try.prog w = .ok (.tuple #[.agg #[], .bool true]) w := by kernel_rfl
set_option maxHeartbeats 4000000 in
theorem catch_panicking (q : Nat) (y0 : Bool) (w : World) (hq : w.cell? ⟨q, 0, none⟩ = some (.bool y0)) (hzq : w.frozen? ⟨q, 0, none⟩ = false) (hql : q < w.heap.size) :
  CallsD Try.prog 43 #[.pointer (some ⟨q, 0, none⟩)] (.panicking LargeL) w fun e u' w' =>
   e = .returned (.tuple #[]) ∧ u' = .panicking [{ v := .iface 75 (.agg #[]), recovered := true }] ∧ w' = (w.setCell ⟨q, 0, none⟩ (.bool false)).alloc (.cells #[] 75) := by
 have ht := assert_largeL
 unfold LargeL
 refine callsD_of_wpS Try.func43 rfl fun c₀ cs hu => ?_
 apply wpS_seq
 apply wpS_region
 simp [wpOpsS, go_sem, recoverD, hu, Try.ntmps43, Exit.thenS]
 refine wpS_of_wp ?_
 go_wp2
 simp [bodyPostS, results, Try.results43]
theorem catch_idle (q : Value) (w : World) :
  CallsD Try.prog 43 #[q] .returning w fun e u' w' => e = .returned (.tuple #[]) ∧ u' = .returning ∧ w' = w := by
 refine callsD_of_wpS Try.func43 rfl fun c₀ cs hu => ?_
 apply wpS_seq
 apply wpS_region
 simp [wpOpsS, go_sem, recoverD, hu, Try.ntmps43, Exit.thenS]
 refine wpS_of_wp ?_
 go_wp2
 cases c₀
 simp_all [bodyPostS, results, Try.results43]
theorem fits_ok (g : Nat) (cap : Array Value) (S : Nat → Prop) (Q : World → Prop) (w : World) (hS : ∀ k, S k → k < w.heap.size) (hcf : ∀ W, (callFunc g cap).run Try.prog W = .ok (.enter g cap) W)
  (h : ∀ W, Below w.heap.size w W → Calls Try.prog g cap W fun e W' => e = .returned (.tuple #[]) ∧ Fp S W W' ∧ Q W') :
  Calls Try.prog 25 #[.func (.func g) #[] cap] w fun e w' => e = .returned (.bool true) ∧ Fp S w w' ∧ ∃ W', Q W' ∧ W'.heap.size ≤ w'.heap.size ∧ ∀ k, k < W'.heap.size → k ≠ w.heap.size → w'.heap[k]? = W'.heap[k]? := by
 have hmf := run_makeFunc
 have H := Lib.hid h
 have HS := Lib.hid hS
 clear h hS
 go_enter_defers Try.func25, Try.ntmps25
 go_wp2_with fail
 refine (H.out _ Z170).mono ?_
 rintro e w1 ⟨rfl, hb1, hQ⟩
 have hz := hb1.size
 simp at hz
 have hblk : w1.heap[w.heap.size]? = some (.cells #[.bool false] 4 (0, 0)) := by
  rw [hb1.block _ (by simp) (fun hk => by have := HS.out _ hk; omega)]; exact heap_alloc_new w _
 have c2 : w1.cell? ⟨w.heap.size, 0, none⟩ = some (.bool false) := by simp [World.cell?, hblk]
 have f2 : w1.frozen? ⟨w.heap.size, 0, none⟩ = false := by simp [World.frozen?, hblk]
 have hb2 : Fp S w w1 := ((Fp.refl S w).alloc _).tr hb1
 have hb3 := Lib.hid (show Fp S w w1 ∧ Q w1 from ⟨hb2, hQ⟩)
 clear hb1 hb2 hQ hblk
 go_wp2
 refine leaves_cons (f := 43) (args := #[.pointer (some ⟨w.heap.size, 0, none⟩)]) (by simp) (by simp [go_sem]) ?_
 refine (catch_idle _ _).mono ?_
 rintro e u' w'' ⟨rfl, rfl, rfl⟩
 obtain ⟨hb2, hQ⟩ := hb3.out
 have k1 : w.heap.size < w1.heap.size := by omega
 simp [Leaves, settle, results, Try.results25, go_sem, c2, k1]
 exact ⟨hb2.setCell (by simp) _, w1, hQ, by simp, fun k hk hne => Below.heap_setCell _ ⟨w.heap.size, 0, none⟩ _ k hne⟩
theorem fits_no (g : Nat) (cap : Array Value) (S : Nat → Prop) (Q : World → Prop) (w : World) (hS : ∀ k, S k → k < w.heap.size) (hcf : ∀ W, (callFunc g cap).run Try.prog W = .ok (.enter g cap) W)
  (h : ∀ W, Below w.heap.size w W → Calls Try.prog g cap W fun e W' => e = .panicked LargeL ∧ Fp S W W' ∧ Q W') :
  Calls Try.prog 25 #[.func (.func g) #[] cap] w fun e w' => e = .returned (.bool false) ∧ Fp S w w' ∧ ∃ W', Q W' ∧ W'.heap.size ≤ w'.heap.size ∧ ∀ k, k < W'.heap.size → k ≠ w.heap.size → w'.heap[k]? = W'.heap[k]? := by
 have hmf := run_makeFunc
 have H := Lib.hid h
 have HS := Lib.hid hS
 clear h hS
 go_enter_defers Try.func25, Try.ntmps25
 go_wp2_with fail
 refine (H.out _ Z170).mono ?_
 rintro e w1 ⟨rfl, hb1, hQ⟩
 have hz := hb1.size
 simp at hz
 have hblk : w1.heap[w.heap.size]? = some (.cells #[.bool false] 4 (0, 0)) := by
  rw [hb1.block _ (by simp) (fun hk => by have := HS.out _ hk; omega)]; exact heap_alloc_new w _
 have c2 : w1.cell? ⟨w.heap.size, 0, none⟩ = some (.bool false) := by simp [World.cell?, hblk]
 have f2 : w1.frozen? ⟨w.heap.size, 0, none⟩ = false := by simp [World.frozen?, hblk]
 have hb2 : Fp S w w1 := ((Fp.refl S w).alloc _).tr hb1
 have hb3 := Lib.hid (show Fp S w w1 ∧ Q w1 from ⟨hb2, hQ⟩)
 clear hb1 hb2 hQ hblk
 go_wp2
 refine leaves_cons (f := 43) (args := #[.pointer (some ⟨w.heap.size, 0, none⟩)]) (by simp) (by simp [go_sem]) ?_
 refine (catch_panicking _ false _ c2 f2 (by omega)).mono ?_
 rintro e u' w'' ⟨rfl, rfl, rfl⟩
 obtain ⟨hb2, hQ⟩ := hb3.out
 have k1 : w.heap.size < w1.heap.size := by omega
 simp [Leaves, settle, results, Try.results25, go_sem, c2, k1]
 exact ⟨(hb2.setCell (by simp) _).alloc _, w1, hQ, by simp, fun k hk hne => (Below.heap_alloc _ _ _ (by simp; omega)).trans (Below.heap_setCell _ ⟨w.heap.size, 0, none⟩ _ k hne)⟩
end Go.Proofs.Ytmcfcmijopbinaa.Ln
end

section
/- Contracts of num: rat, Make and its closure. -/
namespace Go.Proofs
theorem Z2b0 {p : Prop} (h : p := by repeat (first | exact Below.refl _ _ | with_reducible assumption | refine Below.alloc ?_ (by first | exact Nat.le_refl _ | (simp; done) | (simp; omega) | omega) _ | refine Below.setCell ?_ (by first | exact Nat.le_refl _ | (simp; done) | (simp; omega) | omega) _ | refine Below.drew ?_ | refine bdrewN ?_ _)) : p := h
end Go.Proofs
namespace Go.Proofs.Ytmcfcmijopbinaa.Num
open Go.RowKit
set_option linter.unusedVariables false
set_option linter.unusedSimpArgs false
@[reducible, go_sem] def RV (p q : Int) : Value := .agg #[.int .i64 p, .int .i64 q]
set_option maxHeartbeats 1000000 in
theorem rat_ok {x y : Int} {b h l b2 h2 l2} (hw : WV x b h l) (hw2 : WV y b2 h2 l2) (hx : In64 x) (hy : In64 y) (w : World) :
  Calls Try.prog 83 #[W b h l, W b2 h2 l2] w fun e w' => e = .returned (RV x y) ∧ Below w.heap.size w w' := by
 have p1 := Lib.hid (fun W0 => int64_fits hw hx W0)
 have p2 := Lib.hid (fun W0 => int64_fits hw2 hy W0)
 clear hw hw2 hx hy
 unfold W at *
 go_enter Try.func83, Try.ntmps83
 go_wp2
 go_region_held3 (fun w' => w'.cell? ⟨w.heap.size, 0, none⟩ = some (.bool b) ∧ w'.cell? ⟨w.heap.size, 1, none⟩ = some (.int .u64 h) ∧ w'.cell? ⟨w.heap.size, 2, none⟩ = some (.int .u64 l) ∧ w'.cell? ⟨w.heap.size + 1, 0, none⟩ = some (.bool b2) ∧ w'.cell? ⟨w.heap.size + 1, 1, none⟩ = some (.int .u64 h2) ∧ w'.cell? ⟨w.heap.size + 1, 2, none⟩ = some (.int .u64 l2))
  (first | (simp [go_sem]; done))
  (first | ((with_reducible refine (p1.out _).mono ?_); rintro e w1 ⟨rfl, rfl⟩) | ((with_reducible refine (p2.out _).mono ?_); rintro e w2 ⟨rfl, rfl⟩))
 go_wp2
 exact bodyPost_ret (v := RV x y) (by simp [results, Try.results83, go_sem, RV]) rfl ⟨rfl, Z2b0⟩
set_option maxHeartbeats 1000000 in
theorem rat_no1 {x : Int} {b h l b2 h2 l2} (hw : WV x b h l) (hx : ¬ In64 x) (w : World) :
  Calls Try.prog 83 #[W b h l, W b2 h2 l2] w fun e w' => e = .panicked LargeP ∧ Below w.heap.size w w' := by
 have p1 := Lib.hid (fun W0 => int64_large hw hx W0)
 clear hw hx
 unfold W at *
 go_enter Try.func83, Try.ntmps83
 go_wp2
 refine wp_region_held_drew (S := (fun w' => w'.cell? ⟨w.heap.size, 0, none⟩ = some (.bool b) ∧ w'.cell? ⟨w.heap.size, 1, none⟩ = some (.int .u64 h) ∧ w'.cell? ⟨w.heap.size, 2, none⟩ = some (.int .u64 l) ∧ w'.cell? ⟨w.heap.size + 1, 0, none⟩ = some (.bool b2) ∧ w'.cell? ⟨w.heap.size + 1, 1, none⟩ = some (.int .u64 h2) ∧ w'.cell? ⟨w.heap.size + 1, 2, none⟩ = some (.int .u64 l2))) (by kernel_rfl) ?_ (fun hHeld => ?_)
 ·(simp [go_sem]; done)
 iterate 2 (first | refine tk0.go ?_ | refine tk2.go ?_)
 refine wpAnyH_ready (rs := [1]) (by kernel_rfl) (by simp) (ac1 (fun K hK => ?_) (AllReadyH.nil))
 focus go_simp
 ·(refine (p1.out _).mono ?_; rintro e w1 ⟨rfl, rfl⟩; exact ⟨rfl, rfl, by first | exact Z2b0 | exact Below.drew Z2b0⟩)
set_option maxHeartbeats 1000000 in
theorem rat_no2 {x y : Int} {b h l b2 h2 l2} (hw : WV x b h l) (hw2 : WV y b2 h2 l2) (hx : In64 x) (hy : ¬ In64 y) (w : World) :
  Calls Try.prog 83 #[W b h l, W b2 h2 l2] w fun e w' => e = .panicked LargeP ∧ Below w.heap.size w w' := by
 have p1 := Lib.hid (fun W0 => int64_fits hw hx W0)
 have p2 := Lib.hid (fun W0 => int64_large hw2 hy W0)
 clear hw hw2 hx hy
 unfold W at *
 go_enter Try.func83, Try.ntmps83
 go_wp2
 refine wp_region_held_drew (S := (fun w' => w'.cell? ⟨w.heap.size, 0, none⟩ = some (.bool b) ∧ w'.cell? ⟨w.heap.size, 1, none⟩ = some (.int .u64 h) ∧ w'.cell? ⟨w.heap.size, 2, none⟩ = some (.int .u64 l) ∧ w'.cell? ⟨w.heap.size + 1, 0, none⟩ = some (.bool b2) ∧ w'.cell? ⟨w.heap.size + 1, 1, none⟩ = some (.int .u64 h2) ∧ w'.cell? ⟨w.heap.size + 1, 2, none⟩ = some (.int .u64 l2))) (by kernel_rfl) ?_ (fun hHeld => ?_)
 ·(simp [go_sem]; done)
 iterate 2 (first | refine tk0.go ?_ | refine tk2.go ?_)
 refine wpAnyH_ready (rs := [1]) (by kernel_rfl) (by simp) (ac1 (fun K hK => ?_) (AllReadyH.nil))
 focus go_simp
 focus (refine (p1.out _).mono ?_; rintro e w1 ⟨rfl, rfl⟩)
 focus try simp only []
 refine hK.out _ _ ?_ (fun hHeld => ?_)
 ·(simp [go_sem]; done)
 focus clear hK K; try simp only [Act.put, List.setIfInBounds_toArray, List.set_cons_zero, List.set_cons_succ]
 refine wpAnyH_ready (rs := [3]) (by kernel_rfl) (by simp) (ac3 (fun K hK => ?_) (AllReadyH.nil))
 focus go_simp
 ·(refine (p2.out _).mono ?_; rintro e w1 ⟨rfl, rfl⟩; exact ⟨rfl, rfl, by first | exact Z2b0 | exact Below.drew Z2b0⟩)
theorem rat_no {x y : Int} {b h l b2 h2 l2} (hw : WV x b h l) (hw2 : WV y b2 h2 l2) (hxy : ¬ (In64 x ∧ In64 y)) (w : World) :
  Calls Try.prog 83 #[W b h l, W b2 h2 l2] w fun e w' => e = .panicked LargeP ∧ Below w.heap.size w w' := by
 by_cases hx : In64 x
 ·exact rat_no2 hw hw2 hx (fun hy => hxy ⟨hx, hy⟩) w
 ·exact rat_no1 hw hx w
end Go.Proofs.Ytmcfcmijopbinaa.Num
end

section
/- Contracts of num: Make and its closure. -/
namespace Go.Proofs
theorem Zp2f {p q : Prop} (hq : q) (h : p = q := by first | (simp only [Act.put, List.setIfInBounds_toArray, List.set_cons_zero, List.set_cons_succ]; done) | (simp only [Act.put, List.setIfInBounds_toArray, List.set_cons_zero, List.set_cons_succ]; rfl) | rfl) : p := Eq.mpr h hq
theorem Z2f0 {p : Prop} (h : p := by kernel_rfl) : p := h
theorem Z2f1 {p : Prop} (h : p := by (simp [go_sem, hb, hc, bl, cl]; done)) : p := h
theorem Z2f5 {p : Prop} (h : p := by simp [go_sem, hb, hc, bl, cl]) : p := h
theorem Z2f2 {p : Prop} (h : p := by (first | (simp [go_sem, hb, hc, bl, cl]; done) | exact ⟨keepcell (by assumption) Z2f5, keepcell (by assumption) Z2f5⟩ | exact ⟨keepset (by omega) (keepset (by omega) (keepcell (by assumption) Z2f5)), keepset (by omega) (keepset (by omega) (keepcell (by assumption) Z2f5))⟩)) : p := h
theorem Z2f3 {p : Prop} (h : p := by repeat (first | exact Below.refl _ _ | with_reducible assumption | refine Below.alloc ?_ (by first | exact Nat.le_refl _ | (simp; done) | (simp; omega) | omega) _ | refine Below.setCell ?_ (by first | exact Nat.le_refl _ | (simp; done) | (simp; omega) | omega) _ | refine Below.drew ?_ | refine bdrewN ?_ _)) : p := h
theorem Z2f4 {p : Prop} (h : p := by first | exact Nat.le_refl _ | (simp; done) | (simp; omega) | omega) : p := h
end Go.Proofs
namespace Go.Proofs.Ytmcfcmijopbinaa.Num
open Go.RowKit
set_option linter.unusedVariables false
set_option linter.unusedSimpArgs false
def lowP (p q : Int) : Int := if sg p q = true then -(sz p / Int.gcd p q) else sz p / Int.gcd p q
def lowQ (p q : Int) : Int := sz q / Int.gcd p q
theorem gcd_pos {p q : Int} (hq : q ≠ 0) : 0 < (Int.gcd p q : Int) := by
 have := Int.gcd_pos_of_ne_zero_right p hq
 omega
theorem wv_low1 (p q : Int) (hp : In64 p) (hq : q ≠ 0) : WV (lowP p q) (sg p q) 0 (sz p / Int.gcd p q) := by
 have g0 := gcd_pos (p := p) hq
 have a1 := sz_nonneg p
 have a2 := sz_le hp.1 hp.2
 have := Int.ediv_nonneg a1 (Int.le_of_lt g0)
 have := Int.ediv_le_self (Int.gcd p q : Int) a1
 refine ⟨by omega, by omega, by omega, by omega, ?_⟩
 unfold lowP
 simp
theorem wv_low2 (p q : Int) (hp : In64 q) (hq : q ≠ 0) : WV (lowQ p q) false 0 (sz q / Int.gcd p q) := by
 have g0 := gcd_pos (p := p) hq
 have a1 := sz_nonneg q
 have a2 := sz_le hp.1 hp.2
 have := Int.ediv_nonneg a1 (Int.le_of_lt g0)
 have := Int.ediv_le_self (Int.gcd p q : Int) a1
 refine ⟨by omega, by omega, by omega, by omega, ?_⟩
 unfold lowQ
 simp
theorem sg_spell (p q : Int) : (!(decide (p < 0) == decide (q < 0))) = sg p q := by
 unfold sg
 cases decide (p < 0) <;> cases decide (q < 0) <;> rfl
theorem div_spell {a g : Int} (ha : 0 ≤ a) (ha2 : a < 18446744073709551616) (hg : 0 < g) : IntKind.u64.wrap (a.tdiv g) = a / g := by
 rw [Int.tdiv_eq_ediv_of_nonneg ha, IntKind.wrap_u64]
 have := Int.ediv_nonneg ha (Int.le_of_lt hg)
 have := Int.ediv_le_self g ha
 omega
set_option maxHeartbeats 1000000 in
theorem make1_ok (p q : Int) (b c : Nat) (w : World) (hp : In64 p) (hq : In64 q) (h0 : q ≠ 0) (hb : w.cell? ⟨b, 0, none⟩ = some (.int .i64 p)) (hc : w.cell? ⟨c, 0, none⟩ = some (.int .i64 q)) (bl : b < w.heap.size) (cl : c < w.heap.size)
  (hP : In64 (lowP p q)) (hQ : In64 (lowQ p q)) :
  Calls Try.prog 97 #[.pointer (some ⟨b, 0, none⟩), .pointer (some ⟨c, 0, none⟩)] w fun e w' => e = .returned (RV (lowP p q) (lowQ p q)) ∧ Below w.heap.size w w' := by
 have s1 := Lib.hid (fun W0 => size_any p W0 hp.1 hp.2)
 have s2 := Lib.hid (fun W0 => size_any q W0 hq.1 hq.2)
 have a1 := sz_nonneg p
 have a2 := sz_le hp.1 hp.2
 have b1 := sz_nonneg q
 have b2 := sz_le hq.1 hq.2
 have gg := Lib.hid (fun W0 => gcd_any (sz p) (sz q) W0 a1 (by omega) b1 (by omega))
 have g0 := gcd_pos (p := p) h0
 have g1 := gcd_le a1 b1 (by omega) (by omega)
 rw [gcd_sz] at gg g1
 have hn : ¬ (Int.gcd p q : Int) = 0 := by omega
 have hn2 : ((Int.gcd p q : Int) == 0) = false := beq_eq_false_iff_ne.2 hn
 have rr := Lib.hid (fun W0 => rat_ok (wv_low1 p q hp h0) (wv_low2 p q hq h0) hP hQ W0)
 have hsg := sg_spell p q
 have hd1 := div_spell (g := (Int.gcd p q : Int)) a1 (by omega) g0
 have hd2 := div_spell (g := (Int.gcd p q : Int)) b1 (by omega) g0
 clear hp hq h0 hP hQ
 generalize (Int.gcd p q : Int) = g at *
 go_enter Try.func97, Try.ntmps97
 go_wp2
 refine wp_region_held_drew (S := (fun w' => w'.cell? ⟨b, 0, none⟩ = some (.int .i64 p) ∧ w'.cell? ⟨c, 0, none⟩ = some (.int .i64 q))) Z2f0 ?_ (fun hHeld => ?_)
 ·exact Z2f1
 iterate 2 (first | refine tk0.go ?_ | refine tk2.go ?_)
 refine wpAnyH_ready (rs := [1]) Z2f0 (by simp) (ac1 (fun K hK => ?_) (AllReadyH.nil))
 focus go_simp
 focus (refine (s1.out _).mono ?_; rintro e w1 ⟨rfl, rfl⟩)
 focus try simp only []
 refine hK.out _ _ ?_ (fun hHeld => ?_)
 ·exact Z2f1
 focus (clear hK K; refine Zp2f ?_)
 refine wpAnyH_ready (rs := [3]) Z2f0 (by simp) (ac3 (fun K hK => ?_) (AllReadyH.nil))
 focus go_simp
 focus (refine (s2.out _).mono ?_; rintro e w1 ⟨rfl, rfl⟩)
 focus try simp only []
 refine hK.out _ _ ?_ (fun hHeld => ?_)
 ·exact Z2f1
 focus (clear hK K; refine Zp2f ?_)
 refine wpAnyH_ready (rs := [4]) Z2f0 (by simp) (ac4 (fun K hK => ?_) (AllReadyH.nil))
 focus go_simp
 focus (refine (gg.out _).mono ?_; rintro e w1 ⟨rfl, n, rfl⟩)
 focus try simp only []
 refine hK.out _ _ ?_ (fun hHeld => ?_)
 ·exact Z2f1
 focus (clear hK K; refine Zp2f ?_)
 refine tk5.go ?_
 refine wpAnyH_done Z2f0 ?_ _; rotate_left 1
 go_wp2
 refine wp_region_held_drew (S := (fun w' => w'.cell? ⟨b, 0, none⟩ = some (.int .i64 p) ∧ w'.cell? ⟨c, 0, none⟩ = some (.int .i64 q))) Z2f0 ?_ (fun hHeld => ?_)
 ·exact Z2f2
 iterate 9 (first | refine tk0.go ?_ | refine tk1.go ?_ | refine tk2.go ?_ | refine tk3.go ?_ | refine tk4.go ?_ | refine tk5.go ?_ | refine tk7.go ?_ | refine tk10.go ?_ | refine tk12.go ?_)
 refine wpAnyH_ready (rs := [6]) Z2f0 (by simp) (ac6 (fun K hK => ?_) (AllReadyH.nil))
 focus go_simp
 focus (refine (s1.out _).mono ?_; rintro e w1 ⟨rfl, rfl⟩)
 focus try simp only []
 refine hK.out _ _ ?_ (fun hHeld => ?_)
 ·exact Z2f2
 focus (clear hK K; refine Zp2f ?_)
 iterate 2 (first | refine tk8.go ?_ | refine tk9.go ?_)
 refine wpAnyH_ready (rs := [11]) Z2f0 (by simp) (ac11 (fun K hK => ?_) (AllReadyH.nil))
 focus go_simp
 focus (refine (s2.out _).mono ?_; rintro e w1 ⟨rfl, rfl⟩)
 focus try simp only []
 refine hK.out _ _ ?_ (fun hHeld => ?_)
 ·exact Z2f2
 focus (clear hK K; refine Zp2f ?_)
 iterate 2 (first | refine tk13.go ?_ | refine tk14.go ?_)
 refine wpAnyH_ready (rs := [15]) Z2f0 (by simp) (ac15 (fun K hK => ?_) (AllReadyH.nil))
 focus go_simp
 focus (refine (rr.out _).mono ?_; rintro e w1 ⟨rfl, hb1⟩; obtain ⟨g1, g2, g3⟩ := bgrow hb1)
 focus try simp only []
 refine hK.out _ _ ?_ (fun hHeld => ?_)
 ·exact Z2f2
 focus (clear hK K; refine Zp2f ?_)
 refine wpAnyH_ready (rs := [16]) Z2f0 (by simp) (ac16 (fun K hK => ?_) (AllReadyH.nil))
 focus go_simp
 refine hK.out _ _ ?_ (fun hHeld => ?_)
 ·exact Z2f2
 focus (clear hK K; refine Zp2f ?_)
 refine wpAnyH_done Z2f0 ?_ _; rotate_left 1
 go_wp2
 have hbw : Below w.heap.size w w1 := Below.trans (b := (w.alloc (Obj.cells #[Value.int IntKind.i64 0, Value.int IntKind.i64 0] 43)).drewN (1 + n + 1)) Z2f3 (hb1.mono Z2f4)
 have k0 : w1.cell? ⟨w.heap.size, 0, none⟩ = some (.int .i64 0) := by rw [g1 _ _ Z2f4]; simp [go_sem]
 have k1 : w1.cell? ⟨w.heap.size, 1, none⟩ = some (.int .i64 0) := by rw [g1 _ _ Z2f4]; simp [go_sem]
 exact bodyPost_ret (v := RV (lowP p q) (lowQ p q)) (by simp [results, Try.results97, go_sem, k0, k1]) rfl ⟨rfl, Z2f3⟩
set_option maxHeartbeats 1000000 in
theorem make1_no (p q : Int) (b c : Nat) (w : World) (hp : In64 p) (hq : In64 q) (h0 : q ≠ 0) (hb : w.cell? ⟨b, 0, none⟩ = some (.int .i64 p)) (hc : w.cell? ⟨c, 0, none⟩ = some (.int .i64 q)) (bl : b < w.heap.size) (cl : c < w.heap.size)
  (hPQ : ¬ (In64 (lowP p q) ∧ In64 (lowQ p q))) :
  Calls Try.prog 97 #[.pointer (some ⟨b, 0, none⟩), .pointer (some ⟨c, 0, none⟩)] w fun e w' => e = .panicked LargeP ∧ Below w.heap.size w w' := by
 have s1 := Lib.hid (fun W0 => size_any p W0 hp.1 hp.2)
 have s2 := Lib.hid (fun W0 => size_any q W0 hq.1 hq.2)
 have a1 := sz_nonneg p
 have a2 := sz_le hp.1 hp.2
 have b1 := sz_nonneg q
 have b2 := sz_le hq.1 hq.2
 have gg := Lib.hid (fun W0 => gcd_any (sz p) (sz q) W0 a1 (by omega) b1 (by omega))
 have g0 := gcd_pos (p := p) h0
 have g1 := gcd_le a1 b1 (by omega) (by omega)
 rw [gcd_sz] at gg g1
 have hn : ¬ (Int.gcd p q : Int) = 0 := by omega
 have hn2 : ((Int.gcd p q : Int) == 0) = false := beq_eq_false_iff_ne.2 hn
 have rr := Lib.hid (fun W0 => rat_no (wv_low1 p q hp h0) (wv_low2 p q hq h0) hPQ W0)
 have hsg := sg_spell p q
 have hd1 := div_spell (g := (Int.gcd p q : Int)) a1 (by omega) g0
 have hd2 := div_spell (g := (Int.gcd p q : Int)) b1 (by omega) g0
 clear hp hq h0 hPQ
 generalize (Int.gcd p q : Int) = g at *
 go_enter Try.func97, Try.ntmps97
 go_wp2
 refine wp_region_held_drew (S := (fun w' => w'.cell? ⟨b, 0, none⟩ = some (.int .i64 p) ∧ w'.cell? ⟨c, 0, none⟩ = some (.int .i64 q))) Z2f0 ?_ (fun hHeld => ?_)
 ·exact Z2f1
 iterate 2 (first | refine tk0.go ?_ | refine tk2.go ?_)
 refine wpAnyH_ready (rs := [1]) Z2f0 (by simp) (ac1 (fun K hK => ?_) (AllReadyH.nil))
 focus go_simp
 focus (refine (s1.out _).mono ?_; rintro e w1 ⟨rfl, rfl⟩)
 focus try simp only []
 refine hK.out _ _ ?_ (fun hHeld => ?_)
 ·exact Z2f1
 focus (clear hK K; refine Zp2f ?_)
 refine wpAnyH_ready (rs := [3]) Z2f0 (by simp) (ac3 (fun K hK => ?_) (AllReadyH.nil))
 focus go_simp
 focus (refine (s2.out _).mono ?_; rintro e w1 ⟨rfl, rfl⟩)
 focus try simp only []
 refine hK.out _ _ ?_ (fun hHeld => ?_)
 ·exact Z2f1
 focus (clear hK K; refine Zp2f ?_)
 refine wpAnyH_ready (rs := [4]) Z2f0 (by simp) (ac4 (fun K hK => ?_) (AllReadyH.nil))
 focus go_simp
 focus (refine (gg.out _).mono ?_; rintro e w1 ⟨rfl, n, rfl⟩)
 focus try simp only []
 refine hK.out _ _ ?_ (fun hHeld => ?_)
 ·exact Z2f1
 focus (clear hK K; refine Zp2f ?_)
 refine tk5.go ?_
 refine wpAnyH_done Z2f0 ?_ _; rotate_left 1
 go_wp2
 refine wp_region_held_drew (S := (fun w' => w'.cell? ⟨b, 0, none⟩ = some (.int .i64 p) ∧ w'.cell? ⟨c, 0, none⟩ = some (.int .i64 q))) Z2f0 ?_ (fun hHeld => ?_)
 ·exact Z2f2
 iterate 9 (first | refine tk0.go ?_ | refine tk1.go ?_ | refine tk2.go ?_ | refine tk3.go ?_ | refine tk4.go ?_ | refine tk5.go ?_ | refine tk7.go ?_ | refine tk10.go ?_ | refine tk12.go ?_)
 refine wpAnyH_ready (rs := [6]) Z2f0 (by simp) (ac6 (fun K hK => ?_) (AllReadyH.nil))
 focus go_simp
 focus (refine (s1.out _).mono ?_; rintro e w1 ⟨rfl, rfl⟩)
 focus try simp only []
 refine hK.out _ _ ?_ (fun hHeld => ?_)
 ·exact Z2f2
 focus (clear hK K; refine Zp2f ?_)
 iterate 2 (first | refine tk8.go ?_ | refine tk9.go ?_)
 refine wpAnyH_ready (rs := [11]) Z2f0 (by simp) (ac11 (fun K hK => ?_) (AllReadyH.nil))
 focus go_simp
 focus (refine (s2.out _).mono ?_; rintro e w1 ⟨rfl, rfl⟩)
 focus try simp only []
 refine hK.out _ _ ?_ (fun hHeld => ?_)
 ·exact Z2f2
 focus (clear hK K; refine Zp2f ?_)
 iterate 2 (first | refine tk13.go ?_ | refine tk14.go ?_)
 refine wpAnyH_ready (rs := [15]) Z2f0 (by simp) (ac15 (fun K hK => ?_) (AllReadyH.nil))
 focus go_simp
 ·(refine (rr.out _).mono ?_; rintro e w1 ⟨rfl, hb1⟩; exact ⟨rfl, rfl, Below.trans (b := (w.alloc (Obj.cells #[Value.int IntKind.i64 0, Value.int IntKind.i64 0] 43)).drewN (1 + n + 1)) Z2f3 (hb1.mono Z2f4)⟩)
end Go.Proofs.Ytmcfcmijopbinaa.Num
end

section
/- Contracts of num: Make. -/
namespace Go.Proofs
theorem Z2g0 {p : Prop} (h : p := by repeat (first | exact Below.refl _ _ | with_reducible assumption | refine Below.alloc ?_ (by first | exact Nat.le_refl _ | (simp; done) | (simp; omega) | omega) _ | refine Below.setCell ?_ (by first | exact Nat.le_refl _ | (simp; done) | (simp; omega) | omega) _ | refine Below.drew ?_ | refine bdrewN ?_ _)) : p := h
theorem Z2g1 {p : Prop} (h : p := by first | exact Nat.le_refl _ | (simp; done) | (simp; omega) | omega) : p := h
end Go.Proofs
namespace Go.Proofs.Ytmcfcmijopbinaa.Num
open Go.RowKit
set_option linter.unusedVariables false
set_option linter.unusedSimpArgs false
instance (a : Int) : Decidable (In64 a) := inferInstanceAs (Decidable (_ ∧ _))
def mk (p q : Int) : Int × Int × Bool := if q = 0 then (0, 0, false) else if In64 (lowP p q) ∧ In64 (lowQ p q) then (lowP p q, lowQ p q, true) else (0, 0, false)
@[reducible, go_sem] def RB (r : Int × Int × Bool) : Value := .tuple #[RV r.1 r.2.1, .bool r.2.2]
theorem cf_make1 (args : Array Value) (w : World) : (callFunc 97 args).run Try.prog w = .ok (.enter 97 args) w := by kernel_rfl
set_option maxHeartbeats 1000000 in
theorem Make_any (p q : Int) (w : World) (hp : In64 p) (hq : In64 q) :
  Calls Try.prog 85 #[.int .i64 p, .int .i64 q] w fun e w' => e = .returned (RB (mk p q)) ∧ Below w.heap.size w w' := by
 have hmf := run_makeFunc
 by_cases h0 : q = 0
 ·subst h0
  have hm : mk p 0 = (0, 0, false) := if_pos rfl
  rw [hm]
  clear hm
  go_enter Try.func85, Try.ntmps85
  go_wp2
  exact bodyPost_ret (v := RB (0, 0, false)) (by simp [results, Try.results85, go_sem, RB]) rfl ⟨rfl, Z2g0⟩
 ·have e0 : (q == 0) = false := beq_eq_false_iff_ne.2 h0
  by_cases hPQ : In64 (lowP p q) ∧ In64 (lowQ p q)
  ·have hm : mk p q = (lowP p q, lowQ p q, true) := by unfold mk; rw [if_neg h0, if_pos hPQ]
   rw [hm]
   clear hm
   have ff := Lib.hid (fun (W0 : World) (b c : Nat) (hb : W0.cell? ⟨b, 0, none⟩ = some (.int .i64 p)) (hc : W0.cell? ⟨c, 0, none⟩ = some (.int .i64 q)) (bl : b < W0.heap.size) (cl : c < W0.heap.size) =>
    fitsR_ok 97 #[.pointer (some ⟨b, 0, none⟩), .pointer (some ⟨c, 0, none⟩)] (lowP p q) (lowQ p q) W0 (cf_make1 _) (fun W1 hW => make1_ok p q b c W1 hp hq h0 (keepcell hW hb) (keepcell hW hc) (Nat.lt_of_lt_of_le bl hW.size) (Nat.lt_of_lt_of_le cl hW.size) hPQ.1 hPQ.2))
   clear h0 hPQ
   go_enter Try.func85, Try.ntmps85
   go_wp2_with fail
   refine (ff.out _ _ _ (by simp [go_sem]) (by simp [go_sem]) Z2g1 Z2g1).mono ?_
   rintro e w1 ⟨rfl, hb1⟩
   obtain ⟨g1, g2, g3⟩ := bgrow hb1
   have hbw : Below w.heap.size w w1 := by refine Below.trans ?_ (hb1.mono Z2g1); exact Z2g0
   have k0 : w1.cell? ⟨w.heap.size + 1 + 1, 0, none⟩ = some (.int .i64 0) := by rw [g1 _ _ Z2g1]; simp [go_sem]
   have k1 : w1.cell? ⟨w.heap.size + 1 + 1, 1, none⟩ = some (.int .i64 0) := by rw [g1 _ _ Z2g1]; simp [go_sem]
   go_wp2
   exact bodyPost_ret (v := RB (lowP p q, lowQ p q, true)) (by simp [results, Try.results85, go_sem, RB, k0, k1]) rfl ⟨rfl, Z2g0⟩
  ·have hm : mk p q = (0, 0, false) := by unfold mk; rw [if_neg h0, if_neg hPQ]
   rw [hm]
   clear hm
   have ff := Lib.hid (fun (W0 : World) (b c : Nat) (hb : W0.cell? ⟨b, 0, none⟩ = some (.int .i64 p)) (hc : W0.cell? ⟨c, 0, none⟩ = some (.int .i64 q)) (bl : b < W0.heap.size) (cl : c < W0.heap.size) =>
    fitsR_no 97 #[.pointer (some ⟨b, 0, none⟩), .pointer (some ⟨c, 0, none⟩)] W0 (cf_make1 _) (fun W1 hW => make1_no p q b c W1 hp hq h0 (keepcell hW hb) (keepcell hW hc) (Nat.lt_of_lt_of_le bl hW.size) (Nat.lt_of_lt_of_le cl hW.size) hPQ))
   clear h0 hPQ
   go_enter Try.func85, Try.ntmps85
   go_wp2_with fail
   refine (ff.out _ _ _ (by simp [go_sem]) (by simp [go_sem]) Z2g1 Z2g1).mono ?_
   rintro e w1 ⟨rfl, hb1⟩
   obtain ⟨g1, g2, g3⟩ := bgrow hb1
   have hbw : Below w.heap.size w w1 := by refine Below.trans ?_ (hb1.mono Z2g1); exact Z2g0
   have k0 : w1.cell? ⟨w.heap.size + 1 + 1, 0, none⟩ = some (.int .i64 0) := by rw [g1 _ _ Z2g1]; simp [go_sem]
   have k1 : w1.cell? ⟨w.heap.size + 1 + 1, 1, none⟩ = some (.int .i64 0) := by rw [g1 _ _ Z2g1]; simp [go_sem]
   go_wp2
   exact bodyPost_ret (v := RB (0, 0, false)) (by simp [results, Try.results85, go_sem, RB, k0, k1]) rfl ⟨rfl, Z2g0⟩
end Go.Proofs.Ytmcfcmijopbinaa.Num
end
