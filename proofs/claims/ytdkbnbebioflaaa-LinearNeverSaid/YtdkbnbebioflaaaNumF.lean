/- Contracts of num: Add, Sub, Mul, Neg, Gcd, Cmp. -/
import Derived.Test.YtdkbnbebioflaaaNumE
namespace Go.Proofs
theorem Z2c0 {p : Prop} (h : p := by repeat (first | exact Below.refl _ _ | with_reducible assumption | refine Below.alloc ?_ (by first | exact Nat.le_refl _ | (simp; done) | (simp; omega) | omega) _ | refine Below.setCell ?_ (by first | exact Nat.le_refl _ | (simp; done) | (simp; omega) | omega) _ | refine Below.drew ?_ | refine bdrewN ?_ _)) : p := h
theorem Z2c1 {p : Prop} (h : p := by with_reducible assumption) : p := h
theorem Z2c2 {p : Prop} (h : p := by simp [go_sem]) : p := h
theorem Z2c3 {p : Prop} (h : p := by first | exact Nat.le_refl _ | (simp; done) | (simp; omega) | omega) : p := h
theorem Z2c4 {p : Prop} (h : p := by have := hx'.out; unfold cmpI; simp at this; rw [if_neg (by omega), if_neg (by omega)]) : p := h
end Go.Proofs
namespace Go.Proofs.Ytdkbnbebioflaaa.Num
open Go.RowKit
set_option linter.unusedVariables false
set_option linter.unusedSimpArgs false

def In64 (a : Int) : Prop := -9223372036854775808 ≤ a ∧ a < 9223372036854775808

theorem wv_of {a : Int} (h : In64 a) : WV a (decide (a < 0)) 0 (sz a) := by
  obtain ⟨h1, h2⟩ := h
  unfold WV sz
  refine ⟨by omega, by omega, by split <;> omega, by split <;> omega, ?_⟩
  by_cases hn : a < 0
  · simp [hn]
  · simp [hn]

theorem wv_neg {x : Int} {b h l} (hw : WV x b h l) : WV (-x) (!b) h l := by
  obtain ⟨h0, h1, l0, l1, hv⟩ := hw
  refine ⟨h0, h1, l0, l1, ?_⟩
  rw [hv]; cases b <;> simp

theorem sz_mul (a b : Int) : (if sg a b = true then -(sz a * sz b) else sz a * sz b) = a * b := by
  unfold sz sg
  by_cases ha : a < 0 <;> by_cases hb : b < 0 <;> simp [ha, hb, Int.neg_mul, Int.mul_neg]

theorem wv_mul {a b : Int} (ha : In64 a) (hb : In64 b) : WV (a * b) (sg a b) (sz a * sz b / 18446744073709551616) (sz a * sz b % 18446744073709551616) := by
  have a0 := sz_nonneg a
  have b0 := sz_nonneg b
  have a1 := sz_le ha.1 ha.2
  have b1 := sz_le hb.1 hb.2
  have hm := mul_bound a0 a1 b0 b1
  refine ⟨by omega, by omega, by omega, by omega, ?_⟩
  rw [← sz_mul a b]
  split <;> omega

theorem wv_mul_small {a b : Int} (ha : In64 a) (hb : In64 b) : (sz a * sz b / 18446744073709551616) * 18446744073709551616 + sz a * sz b % 18446744073709551616 ≤ 85070591730234615865843651857942052864 := by
  have hm := mul_bound (sz_nonneg a) (sz_le ha.1 ha.2) (sz_nonneg b) (sz_le hb.1 hb.2)
  omega

theorem Add_any (a b : Int) (w : World) (ha : In64 a) (hb : In64 b) :
    Calls Try.prog 51 #[.int .i64 a, .int .i64 b] w fun e w' => e = .returned (.tuple #[.int .i64 (fitp (a + b)).1, .bool (fitp (a + b)).2]) ∧ Below w.heap.size w w' := by
  have o1 := fun W0 => of_any a W0 ha.1 ha.2
  have o2 := fun W0 => of_any b W0 hb.1 hb.2
  have s1 := sz_le ha.1 ha.2
  have s2 := sz_le hb.1 hb.2
  have p := fun W0 => plus_any a b _ _ _ _ _ _ W0 (wv_of ha) (wv_of hb) (by omega)
  have p' := Lib.hid p
  have o1' := Lib.hid o1
  have o2' := Lib.hid o2
  clear p o1 o2 s1 s2 ha hb
  go_enter Try.func51, Try.ntmps51
  go_wp2_with fail
  refine (o1'.out _).mono ?_
  rintro e w1 ⟨rfl, hb1⟩
  go_wp2_with fail
  refine (o2'.out _).mono ?_
  rintro e w2 ⟨rfl, hb2⟩
  go_wp2_with fail
  refine (p'.out _).mono ?_
  rintro e w3 ⟨⟨b3, h3, l3, rfl, hv⟩, hb3⟩
  have hv' := Lib.hid hv
  clear hv
  go_wp2_with fail
  refine (whole_any hv'.out _).mono ?_
  rintro e w4 ⟨rfl, hb4⟩
  go_wp2
  go_ret2
  exact ⟨rfl, hb1.trans ((hb2.mono hb1.size).trans ((hb3.mono (Nat.le_trans hb1.size hb2.size)).trans (hb4.mono (Nat.le_trans hb1.size (Nat.le_trans hb2.size hb3.size)))))⟩

theorem bthen {w w1 w2 : World} (h1 : Below w.heap.size w w1) (h2 : Below w1.heap.size w1 w2) : Below w.heap.size w w2 := h1.trans (h2.mono h1.size)

theorem bdrew (w : World) (n : Nat) : Below w.heap.size w (w.drewN n) := ⟨rfl, rfl, rfl, Nat.le_refl _, fun _ _ => rfl⟩

theorem Mul_any (a b : Int) (w : World) (ha : In64 a) (hb : In64 b) :
    Calls Try.prog 52 #[.int .i64 a, .int .i64 b] w fun e w' => e = .returned (.tuple #[.int .i64 (fitp (a * b)).1, .bool (fitp (a * b)).2]) ∧ Below w.heap.size w w' := by
  have p' := Lib.hid (fun W0 => product_any a b W0 ha.1 ha.2 hb.1 hb.2)
  have hv := Lib.hid (wv_mul ha hb)
  clear ha hb
  go_enter Try.func52, Try.ntmps52
  go_wp2_with fail
  refine (p'.out _).mono ?_
  rintro e w1 ⟨rfl, hw1⟩
  have hb1 : Below w.heap.size w w1 := by rw [hw1]; exact Z2c0
  clear hw1
  go_wp2_with fail
  refine (whole_any hv.out _).mono ?_
  rintro e w2 ⟨rfl, hb2⟩
  go_wp2
  go_ret2
  exact ⟨rfl, bthen hb1 hb2⟩

theorem Neg_any (a : Int) (w : World) (ha : In64 a) :
    Calls Try.prog 54 #[.int .i64 a] w fun e w' => e = .returned (.tuple #[.int .i64 (fitp (-a)).1, .bool (fitp (-a)).2]) ∧ Below w.heap.size w w' := by
  have o1' := Lib.hid (fun W0 => of_any a W0 ha.1 ha.2)
  have hv := Lib.hid (wv_neg (wv_of ha))
  clear ha
  go_enter Try.func54, Try.ntmps54
  go_wp2_with fail
  refine (o1'.out _).mono ?_
  rintro e w1 ⟨rfl, hb1⟩
  go_wp2_with fail
  refine (neg_any _ _ _ _).mono ?_
  rintro e w2 ⟨rfl, hw2⟩
  have hb2 : Below w1.heap.size w1 w2 := by rw [hw2]; exact Z2c0
  clear hw2
  go_wp2_with fail
  refine (whole_any hv.out _).mono ?_
  rintro e w3 ⟨rfl, hb3⟩
  go_wp2
  go_ret2
  exact ⟨rfl, bthen (bthen hb1 hb2) hb3⟩

theorem gcd_le {a b : Int} (ha : 0 ≤ a) (hb : 0 ≤ b) (h : a < 18446744073709551616) (h2 : b < 18446744073709551616) : (Int.gcd a b : Int) < 18446744073709551616 := by
  by_cases h0 : a = 0
  · subst h0; rw [Int.gcd_zero_left]; omega
  · have := Int.gcd_le_natAbs_left (b := b) h0
    omega

theorem gcd_sz (a b : Int) : Int.gcd (sz a) (sz b) = Int.gcd a b := by
  unfold sz
  split <;> split <;> simp

theorem Gcd_any (a b : Int) (w : World) (ha : In64 a) (hb : In64 b) :
    Calls Try.prog 58 #[.int .i64 a, .int .i64 b] w fun e w' => e = .returned (.tuple #[.int .i64 (fitp (Int.gcd a b)).1, .bool (fitp (Int.gcd a b)).2]) ∧ Below w.heap.size w w' := by
  have o1' := Lib.hid (fun W0 => size_any a W0 ha.1 ha.2)
  have o2' := Lib.hid (fun W0 => size_any b W0 hb.1 hb.2)
  have s1 := sz_le ha.1 ha.2
  have s2 := sz_le hb.1 hb.2
  have s3 := sz_nonneg a
  have s4 := sz_nonneg b
  have g' := Lib.hid (fun W0 => gcd_any (sz a) (sz b) W0 s3 (by omega) s4 (by omega))
  have hg := gcd_le s3 s4 (by omega) (by omega)
  rw [gcd_sz] at g' hg
  have hv : WV (Int.gcd a b) false 0 (Int.gcd a b) := ⟨by omega, by omega, by omega, by omega, by simp⟩
  have hv' := Lib.hid hv
  clear s1 s2 s3 s4 hg ha hb hv
  go_enter Try.func58, Try.ntmps58
  go_wp2_with fail
  refine (o1'.out _).mono ?_
  rintro e w1 ⟨rfl, rfl⟩
  go_wp2_with fail
  refine (o2'.out _).mono ?_
  rintro e w1 ⟨rfl, rfl⟩
  go_wp2_with fail
  refine (g'.out _).mono ?_
  rintro e w1 ⟨rfl, n, rfl⟩
  go_wp2_with fail
  refine (whole_any hv'.out _).mono ?_
  rintro e w3 ⟨rfl, hb3⟩
  go_wp2
  go_ret2
  exact ⟨rfl, bthen (bdrew _ n) hb3⟩

theorem Whole_any (a : Int) (w : World) : Calls Try.prog 43 #[.int .i64 a] w fun e w' => e = .returned (.agg #[.int .i64 a, .int .i64 1]) ∧ Below w.heap.size w w' := by
  go_enter Try.func43, Try.ntmps43
  go_wp2
  exact bodyPost_ret (v := .agg #[.int .i64 a, .int .i64 1]) (by simp [results, Try.results43, go_sem]) rfl ⟨rfl, Z2c0⟩

theorem right_any (p q : Int) (w : World) : Calls Try.prog 62 #[.agg #[.int .i64 p, .int .i64 q]] w fun e w' => e = .returned (.bool (decide (0 < q))) ∧ w' = w.alloc (.cells #[.int .i64 p, .int .i64 q] 29) := by
  go_enter Try.func62, Try.ntmps62
  go_wp2
  go_ret
  exact ⟨rfl, rfl⟩


def cmpI (x : Int) : Int := if x < 0 then -1 else if x = 0 then 0 else 1

theorem keepcell {W w1 : World} (hb : Below W.heap.size W w1) {b o : Nat} {v : Value} (h : W.cell? ⟨b, o, none⟩ = some v) : w1.cell? ⟨b, o, none⟩ = some v := by
  rw [hb.cell (p := ⟨b, o, none⟩) ?_, h]
  show b < W.heap.size
  by_cases hlt : b < W.heap.size
  · exact hlt
  · rw [World.cell?, Array.getElem?_eq_none (Nat.not_lt.1 hlt)] at h
    simp at h

theorem keepalloc {W : World} {o : Obj} {b i : Nat} {v : Value} (h : W.cell? ⟨b, i, none⟩ = some v) : (W.alloc o).cell? ⟨b, i, none⟩ = some v := by
  rw [World.cell?_alloc_some _ _ _ (by rw [h]; rfl), h]

theorem keepset {W : World} {g k b i : Nat} {u v : Value} (hb : b ≠ g) (h : W.cell? ⟨b, i, none⟩ = some v) : (W.setCell ⟨g, k, none⟩ u).cell? ⟨b, i, none⟩ = some v := by
  rw [World.cell?_setCell_far _ _ _ _ (Ne.symm hb), h]

theorem bgrow {W w1 : World} (hb : Below W.heap.size W w1) : (∀ b o, b < W.heap.size → w1.cell? ⟨b, o, none⟩ = W.cell? ⟨b, o, none⟩) ∧ (∀ b o, b < W.heap.size → w1.frozen? ⟨b, o, none⟩ = W.frozen? ⟨b, o, none⟩) ∧ ∀ b, b < W.heap.size → b < w1.heap.size :=
  ⟨(bcell hb).1, (bcell hb).2, fun b h => Nat.lt_of_lt_of_le h hb.size⟩

set_option maxHeartbeats 4000000 in
theorem Cmp_any (p q r s : Int) (w : World) (hp : In64 p) (hq : In64 q) (hr : In64 r) (hs : In64 s) :
    Calls Try.prog 56 #[.agg #[.int .i64 p, .int .i64 q], .agg #[.int .i64 r, .int .i64 s]] w fun e w' => e = .returned (.int .i64 (cmpI (p * s - r * q))) ∧ Below w.heap.size w w' := by
  have p1 := Lib.hid (fun W0 => product_any p s W0 hp.1 hp.2 hs.1 hs.2)
  have p2 := Lib.hid (fun W0 => product_any r q W0 hr.1 hr.2 hq.1 hq.2)
  have v1 := wv_mul hp hs
  have v2 := wv_neg (wv_mul hr hq)
  have m1 := wv_mul_small hp hs
  have m2 := wv_mul_small hr hq
  have pl := Lib.hid (fun W0 => plus_any _ _ _ _ _ _ _ _ W0 v1 v2 (by omega))
  clear v1 v2 m1 m2
  go_enter Try.func56, Try.ntmps56
  go_wp2
  go_region_held3 (fun w' => w'.cell? ⟨w.heap.size, 0, none⟩ = some (.int .i64 p) ∧ w'.cell? ⟨w.heap.size, 1, none⟩ = some (.int .i64 q) ∧ w'.cell? ⟨w.heap.size + 1, 0, none⟩ = some (.int .i64 r) ∧ w'.cell? ⟨w.heap.size + 1, 1, none⟩ = some (.int .i64 s))
    (first | (simp [go_sem]; done) | (go_split_ands; with_reducible exact ⟨keepcell Z2c1 Z2c2, keepcell Z2c1 Z2c2, keepcell Z2c1 Z2c2, keepcell Z2c1 Z2c2⟩) | (go_split_ands; with_reducible exact ⟨keepalloc (keepcell Z2c1 Z2c2), keepalloc (keepcell Z2c1 Z2c2), keepalloc (keepcell Z2c1 Z2c2), keepalloc (keepcell Z2c1 Z2c2)⟩) | (go_split_ands; with_reducible exact ⟨keepset (by omega) (keepset (by omega) (keepset (by omega) (keepcell Z2c1 Z2c2))), keepset (by omega) (keepset (by omega) (keepset (by omega) (keepcell Z2c1 Z2c2))), keepset (by omega) (keepset (by omega) (keepset (by omega) (keepcell Z2c1 Z2c2))), keepset (by omega) (keepset (by omega) (keepset (by omega) (keepcell Z2c1 Z2c2)))⟩))
    (first | ((with_reducible refine (p1.out _).mono ?_); rintro e w1 ⟨rfl, rfl⟩) | ((with_reducible refine (p2.out _).mono ?_); rintro e w2 ⟨rfl, rfl⟩) | ((with_reducible refine (neg_any _ _ _ _).mono ?_); rintro e w3 ⟨rfl, rfl⟩) | ((with_reducible refine (pl.out _).mono ?_); rintro e w4 ⟨⟨b3, h3, l3, rfl, hv⟩, hb4⟩; have hv' := Lib.hid hv; clear hv; obtain ⟨g1, g2, g3⟩ := bgrow hb4))
  all_goals
    have hbw : Below w.heap.size w w4 := Below.trans (by first | exact Z2c0 | exact Below.drew Z2c0) (hb4.mono Z2c3)
    have hz : w.heap.size + 2 ≤ w4.heap.size := by have := hb4.size; simp at this; omega
    obtain ⟨h0, h1, l0, l1, hx⟩ := hv'.out
    have hx' := Lib.hid hx
    clear hx hb4 p1 p2 pl
    by_cases c1 : h3 = 0
    · subst c1
      by_cases c2 : l3 = 0
      · subst c2
        go_wp2
        go_ret
        exact ⟨ret_int (by have := hx'.out; unfold cmpI; cases b3 <;> simp at this <;> (rw [if_neg (by omega), if_pos (by omega)])), Z2c0⟩
      · have e2 : (l3 == 0) = false := beq_eq_false_iff_ne.2 c2
        cases b3
        · go_wp2
          go_ret
          exact ⟨ret_int Z2c4, Z2c0⟩
        · go_wp2
          go_ret
          exact ⟨ret_int (by have := hx'.out; unfold cmpI; simp at this; rw [if_pos (by omega)]), Z2c0⟩
    · have e2 : (h3 == 0) = false := beq_eq_false_iff_ne.2 c1
      cases b3
      · go_wp2
        go_ret
        exact ⟨ret_int Z2c4, Z2c0⟩
      · go_wp2
        go_ret
        exact ⟨ret_int (by have := hx'.out; unfold cmpI; simp at this; rw [if_pos (by omega)]), Z2c0⟩

end Go.Proofs.Ytdkbnbebioflaaa.Num
