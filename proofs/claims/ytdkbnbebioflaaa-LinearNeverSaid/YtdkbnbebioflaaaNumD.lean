import Derived.Test.YtdkbnbebioflaaaNumA
section
/- The same of 'fits' at rats. -/
namespace Go.Proofs
theorem Z2a0 {p : Prop} (h : p := by repeat (first | exact Below.refl _ _ | with_reducible assumption | refine Below.alloc ?_ (by first | exact Nat.le_refl _ | (simp; done) | (simp; omega) | omega) _ | refine Below.setCell ?_ (by first | exact Nat.le_refl _ | (simp; done) | (simp; omega) | omega) _ | refine Below.drew ?_ | refine bdrewN ?_ _)) : p := h
theorem Z2a1 {p : Prop} (h : p := by first | exact Nat.le_refl _ | (simp; done) | (simp; omega) | omega) : p := h
end Go.Proofs
namespace Go.Proofs.Ytdkbnbebioflaaa.Num
open Go.RowKit
set_option linter.unusedVariables false
set_option linter.unusedSimpArgs false

theorem catchR_panicking (p q : Nat) (x0 x1 : Int) (y0 : Bool) (w : World) (hp : w.cell? ⟨p, 0, none⟩ = some (.int .i64 x0)) (hp1 : w.cell? ⟨p, 1, none⟩ = some (.int .i64 x1)) (hz1 : w.frozen? ⟨p, 1, none⟩ = false) (hz : w.frozen? ⟨p, 0, none⟩ = false) (hq : w.cell? ⟨q, 0, none⟩ = some (.bool y0)) (hzq : w.frozen? ⟨q, 0, none⟩ = false) (hpq : p ≠ q) (hpl : p < w.heap.size) (hql : q < w.heap.size) :
    CallsD Try.prog 39 #[.pointer (some ⟨p, 0, none⟩), .pointer (some ⟨q, 0, none⟩)] (.panicking LargeP) w fun e u' w' =>
      e = .returned (.tuple #[]) ∧ u' = .panicking [{ v := .iface 74 (.agg #[]), recovered := true }] ∧ w' = ((((w.setCell ⟨p, 0, none⟩ (.int .i64 0)).setCell ⟨p, 1, none⟩ (.int .i64 0)).setCell ⟨q, 0, none⟩ (.bool false)).alloc (.cells #[] 74)).alloc (.cells #[.int .i64 0, .int .i64 0] 29) := by
  have ht := assert_large
  unfold LargeP
  refine callsD_of_wpS Try.func39 rfl fun c₀ cs hu => ?_
  apply wpS_seq
  apply wpS_region
  simp [wpOpsS, go_sem, recoverD, hu, Try.ntmps39, Exit.thenS]
  refine wpS_of_wp ?_
  go_wp2
  simp [bodyPostS, results, Try.results39]

theorem catchR_idle (p q : Value) (w : World) :
    CallsD Try.prog 39 #[p, q] .returning w fun e u' w' => e = .returned (.tuple #[]) ∧ u' = .returning ∧ w' = w := by
  refine callsD_of_wpS Try.func39 rfl fun c₀ cs hu => ?_
  apply wpS_seq
  apply wpS_region
  simp [wpOpsS, go_sem, recoverD, hu, Try.ntmps39, Exit.thenS]
  refine wpS_of_wp ?_
  go_wp2
  cases c₀
  simp_all [bodyPostS, results, Try.results39]

theorem fitsR_ok (g : Nat) (first : Array Value) (n m : Int) (w : World) (hcf : ∀ W, (callFunc g first).run Try.prog W = .ok (.enter g first) W) (h : ∀ W, Below w.heap.size w W → Calls Try.prog g first W fun e W' => e = .returned (.agg #[.int .i64 n, .int .i64 m]) ∧ Below W.heap.size W W') :
    Calls Try.prog 12 #[.func (.func g) #[] first] w fun e w' => e = .returned (.tuple #[.agg #[.int .i64 n, .int .i64 m], .bool true]) ∧ Below w.heap.size w w' := by
  have hmf := run_makeFunc
  have H := Lib.hid h
  clear h
  go_enter_defers Try.func12, Try.ntmps12
  go_wp2_with fail
  refine (H.out _ Z2a0).mono ?_
  rintro e w1 ⟨rfl, hb1⟩
  obtain ⟨hc, hf⟩ := bcell hb1
  have hz := hb1.size
  have c1 : w1.cell? ⟨w.heap.size, 0, none⟩ = some (.int .i64 0) := by rw [hc _ _ Z2a1]; simp [go_sem]
  have c11 : w1.cell? ⟨w.heap.size, 1, none⟩ = some (.int .i64 0) := by rw [hc _ _ Z2a1]; simp [go_sem]
  have f11 : w1.frozen? ⟨w.heap.size, 1, none⟩ = false := by rw [hf _ _ Z2a1]; simp [go_sem]
  have c2 : w1.cell? ⟨w.heap.size + 1, 0, none⟩ = some (.bool false) := by rw [hc _ _ Z2a1]; simp [go_sem]
  have f1 : w1.frozen? ⟨w.heap.size, 0, none⟩ = false := by rw [hf _ _ Z2a1]; simp [go_sem]
  have f2 : w1.frozen? ⟨w.heap.size + 1, 0, none⟩ = false := by rw [hf _ _ Z2a1]; simp [go_sem]
  have hb2 : Below w.heap.size w w1 := (((Below.refl _ _).alloc (Nat.le_refl _) _).alloc (by simp) _).trans (hb1.mono (by simp; omega))
  simp at hz
  clear hc hf hb1
  go_wp2
  refine leaves_cons (f := 39) (args := #[.pointer (some ⟨w.heap.size, 0, none⟩), .pointer (some ⟨w.heap.size + 1, 0, none⟩)]) (by simp) (by simp [go_sem]) ?_
  refine (catchR_idle _ _ _).mono ?_
  rintro e u' w'' ⟨rfl, rfl, rfl⟩
  simp [Leaves, settle, results, Try.results12, go_sem, c1, c11, c2]
  exact ((hb2.setCell (by simp) _).setCell (by simp) _).setCell (by simp) _

theorem fitsR_no (g : Nat) (first : Array Value) (w : World) (hcf : ∀ W, (callFunc g first).run Try.prog W = .ok (.enter g first) W) (h : ∀ W, Below w.heap.size w W → Calls Try.prog g first W fun e W' => e = .panicked LargeP ∧ Below W.heap.size W W') :
    Calls Try.prog 12 #[.func (.func g) #[] first] w fun e w' => e = .returned (.tuple #[.agg #[.int .i64 0, .int .i64 0], .bool false]) ∧ Below w.heap.size w w' := by
  have hmf := run_makeFunc
  have H := Lib.hid h
  clear h
  go_enter_defers Try.func12, Try.ntmps12
  go_wp2_with fail
  refine (H.out _ Z2a0).mono ?_
  rintro e w1 ⟨rfl, hb1⟩
  obtain ⟨hc, hf⟩ := bcell hb1
  have hz := hb1.size
  have c1 : w1.cell? ⟨w.heap.size, 0, none⟩ = some (.int .i64 0) := by rw [hc _ _ Z2a1]; simp [go_sem]
  have c11 : w1.cell? ⟨w.heap.size, 1, none⟩ = some (.int .i64 0) := by rw [hc _ _ Z2a1]; simp [go_sem]
  have f11 : w1.frozen? ⟨w.heap.size, 1, none⟩ = false := by rw [hf _ _ Z2a1]; simp [go_sem]
  have c2 : w1.cell? ⟨w.heap.size + 1, 0, none⟩ = some (.bool false) := by rw [hc _ _ Z2a1]; simp [go_sem]
  have f1 : w1.frozen? ⟨w.heap.size, 0, none⟩ = false := by rw [hf _ _ Z2a1]; simp [go_sem]
  have f2 : w1.frozen? ⟨w.heap.size + 1, 0, none⟩ = false := by rw [hf _ _ Z2a1]; simp [go_sem]
  have hb2 : Below w.heap.size w w1 := (((Below.refl _ _).alloc (Nat.le_refl _) _).alloc (by simp) _).trans (hb1.mono (by simp; omega))
  simp at hz
  clear hc hf hb1
  go_wp2
  refine leaves_cons (f := 39) (args := #[.pointer (some ⟨w.heap.size, 0, none⟩), .pointer (some ⟨w.heap.size + 1, 0, none⟩)]) (by simp) (by simp [go_sem]) ?_
  refine (catchR_panicking _ _ 0 0 false _ c1 c11 f11 f1 c2 f2 (by omega) (by omega) (by omega)).mono ?_
  rintro e u' w'' ⟨rfl, rfl, rfl⟩
  have k1 : w.heap.size < w1.heap.size := by omega
  have k2 : w.heap.size + 1 < w1.heap.size := by omega
  simp [Leaves, settle, results, Try.results12, go_sem, c1, c11, c2, k1, k2]
  exact ((((hb2.setCell (by simp) _).setCell (by simp) _).setCell (by simp) _).alloc (by simp; omega) _).alloc (by simp; omega) _

end Go.Proofs.Ytdkbnbebioflaaa.Num
end

section
/- Contracts of num: gcd, whole, Add, Sub, Mul, Neg, Gcd. -/
namespace Go.Proofs
theorem Z2b0 {p : Prop} (h : p := by rintro e w' ⟨rfl, rfl⟩; exact ⟨rfl, (by repeat (first | exact Below.refl _ _ | with_reducible assumption | refine Below.alloc ?_ (by first | exact Nat.le_refl _ | (simp; done) | (simp; omega) | omega) _ | refine Below.setCell ?_ (by first | exact Nat.le_refl _ | (simp; done) | (simp; omega) | omega) _ | refine Below.drew ?_ | refine bdrewN ?_ _))⟩) : p := h
end Go.Proofs
namespace Go.Proofs.Ytdkbnbebioflaaa.Num
open Go.RowKit
set_option linter.unusedVariables false
set_option linter.unusedSimpArgs false

theorem gcd_step (a b : Int) (ha : 0 ≤ a) (hb : 0 ≤ b) : Int.gcd b (a % b) = Int.gcd a b := by
  obtain ⟨x, rfl⟩ := Int.eq_ofNat_of_zero_le ha
  obtain ⟨y, rfl⟩ := Int.eq_ofNat_of_zero_le hb
  rw [← Int.natCast_emod, Int.gcd_natCast_natCast, Int.gcd_natCast_natCast, Nat.gcd_comm x y, Nat.gcd_comm y (x % y)]
  exact (Nat.gcd_rec y x).symm

theorem gcd_any (a b : Int) (w : World) (ha : 0 ≤ a) (ha2 : a < 18446744073709551616) (hb : 0 ≤ b) (hb2 : b < 18446744073709551616) :
    Calls Try.prog 14 #[.int .u64 a, .int .u64 b] w fun e w' => e = .returned (.int .u64 (Int.gcd a b)) ∧ ∃ n, w' = w.drewN n := by
  go_enter Try.func14, Try.ntmps14
  go_wp2
  go_loopw [0, 1] (fun x y W => ∃ p q : Int, 0 ≤ p ∧ 0 ≤ q ∧ x = .int .u64 p ∧ y = .int .u64 q ∧ Hid (Int.gcd p q = Int.gcd a b) ∧ ∃ n, W = w.drewN n) (fun _ y _ => (intOf y).toNat)
  case atStart => exact ⟨a, b, ha, hb, rfl, rfl, rfl, 0, rfl⟩
  case round =>
    obtain ⟨p, q, hp, hq, rfl, rfl, hg, n, rfl⟩ := hrel
    by_cases h0 : 0 < q
    · have e1 : decide (0 < q) = true := decide_eq_true h0
      have hne : ¬ q = 0 := by omega
      have hs := Lib.hid (gcd_step p q hp hq)
      go_wp2
      go_quiet (fail)

      go_roundw
      case rel => exact ⟨_, _, _, _, _, _, _, _, ⟨q, p % q, hq, Int.emod_nonneg _ hne, rfl, rfl, Lib.hid (by rw [hs.out, hg.out]), n + nq, by simp [World.drewN, Nat.add_assoc]⟩, rfl⟩
      case measure =>
        have := Int.emod_lt_of_pos p h0
        have := Int.emod_nonneg p hne
        simp [intOf]; omega
    · have e1 : decide (0 < q) = false := decide_eq_false h0
      obtain rfl : q = 0 := by omega
      go_wp2
      go_ret
      exact ⟨ret_int (by rw [← hg.out, Int.gcd_zero_right]; omega), n, rfl⟩

/-- A number that fits, and whether. -/
def fitp (x : Int) : Int × Bool := if -9223372036854775808 ≤ x ∧ x < 9223372036854775808 then (x, true) else (0, false)

/-- 'int64' of a wide number. -/
theorem int64_fits {x : Int} {b h l} (hw : WV x b h l) (hx : -9223372036854775808 ≤ x ∧ x < 9223372036854775808) (w : World) :
    Calls Try.prog 40 #[W b h l] w fun e w' => e = .returned (.int .i64 x) ∧ w' = w.alloc (.cells #[.bool b, .int .u64 h, .int .u64 l] 49) := by
  obtain ⟨h0, h1, l0, l1, hv⟩ := hw
  have hh : h = 0 := by cases b <;> simp at hv <;> omega
  subst hh
  have := int64_yes b l w l0 (by cases b <;> simp at hv <;> omega) (by cases b <;> simp at hv <;> intros <;> first | rfl | omega)
  refine this.mono ?_
  rintro e w' ⟨rfl, hb⟩
  refine ⟨ret_int ?_, hb⟩
  rw [hv]; split <;> omega

theorem int64_large {x : Int} {b h l} (hw : WV x b h l) (hx : ¬ (-9223372036854775808 ≤ x ∧ x < 9223372036854775808)) (w : World) :
    Calls Try.prog 40 #[W b h l] w fun e w' => e = .panicked LargeP ∧ w' = w.alloc (.cells #[.bool b, .int .u64 h, .int .u64 l] 49) := by
  obtain ⟨h0, h1, l0, l1, hv⟩ := hw
  refine int64_no b h l w ?_
  cases b <;> simp at hv ⊢ <;> omega

theorem cf_int64 (args : Array Value) (w : World) : (callFunc 40 args).run Try.prog w = .ok (.enter 40 args) w := by kernel_rfl

theorem whole_any {x : Int} {b h l} (hw : WV x b h l) (w : World) :
    Calls Try.prog 69 #[W b h l] w fun e w' => e = .returned (.tuple #[.int .i64 (fitp x).1, .bool (fitp x).2]) ∧ Below w.heap.size w w' := by
  by_cases hx : -9223372036854775808 ≤ x ∧ x < 9223372036854775808
  · have H := fun W0 => fits64_ok 40 #[W b h l] x W0 (cf_int64 _) (fun W1 _ => (int64_fits hw hx W1).mono Z2b0)
    have hf : fitp x = (x, true) := if_pos hx
    rw [hf]
    have H' := Lib.hid H
    clear H hf hx hw
    unfold W at *
    go_enter Try.func69, Try.ntmps69
    go_wp2_with fail
    refine (H'.out _).mono ?_
    rintro e w1 ⟨rfl, hb1⟩
    go_wp2
    go_ret2
    exact ⟨rfl, ((Below.refl _ _).alloc (Nat.le_refl _) _).trans (hb1.mono (by simp))⟩
  · have H := fun W0 => fits64_no 40 #[W b h l] W0 (cf_int64 _) (fun W1 _ => (int64_large hw hx W1).mono Z2b0)
    have hf : fitp x = (0, false) := if_neg hx
    rw [hf]
    have H' := Lib.hid H
    clear H hf hx hw
    unfold W at *
    go_enter Try.func69, Try.ntmps69
    go_wp2_with fail
    refine (H'.out _).mono ?_
    rintro e w1 ⟨rfl, hb1⟩
    go_wp2
    go_ret2
    exact ⟨rfl, ((Below.refl _ _).alloc (Nat.le_refl _) _).trans (hb1.mono (by simp))⟩

end Go.Proofs.Ytdkbnbebioflaaa.Num
end

section
/- Contracts of num: Add, Sub, Mul, Neg, Gcd, Cmp. -/
namespace Go.Proofs
theorem Z2c0 {p : Prop} (h : p := by repeat (first | exact Below.refl _ _ | with_reducible assumption | refine Below.alloc ?_ (by first | exact Nat.le_refl _ | (simp; done) | (simp; omega) | omega) _ | refine Below.setCell ?_ (by first | exact Nat.le_refl _ | (simp; done) | (simp; omega) | omega) _ | refine Below.drew ?_ | refine bdrewN ?_ _)) : p := h
theorem Z2c1 {p : Prop} (h : p := by with_reducible assumption) : p := h
theorem Z2c2 {p : Prop} (h : p := by simp [go_sem]) : p := h
theorem Z2c3 {p : Prop} (h : p := by first | exact Nat.le_refl _ | (simp; done) | (simp; omega) | omega) : p := h
theorem Z2c4 {p : Prop} (h : p := by have := hx'.out; unfold cmpI; simp at this; rw [if_neg (by omega), if_neg (by omega)]) : p := h
end Go.Proofs
namespace Go.Proofs.Ytdkbnbebioflaaa.Num
open Go.RowKit
set_option linter.unusedVariables false
set_option linter.unusedSimpArgs false

def In64 (a : Int) : Prop := -9223372036854775808 ≤ a ∧ a < 9223372036854775808

theorem wv_of {a : Int} (h : In64 a) : WV a (decide (a < 0)) 0 (sz a) := by
  obtain ⟨h1, h2⟩ := h
  unfold WV sz
  refine ⟨by omega, by omega, by split <;> omega, by split <;> omega, ?_⟩
  by_cases hn : a < 0
  · simp [hn]
  · simp [hn]

theorem wv_neg {x : Int} {b h l} (hw : WV x b h l) : WV (-x) (!b) h l := by
  obtain ⟨h0, h1, l0, l1, hv⟩ := hw
  refine ⟨h0, h1, l0, l1, ?_⟩
  rw [hv]; cases b <;> simp

theorem sz_mul (a b : Int) : (if sg a b = true then -(sz a * sz b) else sz a * sz b) = a * b := by
  unfold sz sg
  by_cases ha : a < 0 <;> by_cases hb : b < 0 <;> simp [ha, hb, Int.neg_mul, Int.mul_neg]

theorem wv_mul {a b : Int} (ha : In64 a) (hb : In64 b) : WV (a * b) (sg a b) (sz a * sz b / 18446744073709551616) (sz a * sz b % 18446744073709551616) := by
  have a0 := sz_nonneg a
  have b0 := sz_nonneg b
  have a1 := sz_le ha.1 ha.2
  have b1 := sz_le hb.1 hb.2
  have hm := mul_bound a0 a1 b0 b1
  refine ⟨by omega, by omega, by omega, by omega, ?_⟩
  rw [← sz_mul a b]
  split <;> omega

theorem wv_mul_small {a b : Int} (ha : In64 a) (hb : In64 b) : (sz a * sz b / 18446744073709551616) * 18446744073709551616 + sz a * sz b % 18446744073709551616 ≤ 85070591730234615865843651857942052864 := by
  have hm := mul_bound (sz_nonneg a) (sz_le ha.1 ha.2) (sz_nonneg b) (sz_le hb.1 hb.2)
  omega

theorem Add_any (a b : Int) (w : World) (ha : In64 a) (hb : In64 b) :
    Calls Try.prog 51 #[.int .i64 a, .int .i64 b] w fun e w' => e = .returned (.tuple #[.int .i64 (fitp (a + b)).1, .bool (fitp (a + b)).2]) ∧ Below w.heap.size w w' := by
  have o1 := fun W0 => of_any a W0 ha.1 ha.2
  have o2 := fun W0 => of_any b W0 hb.1 hb.2
  have s1 := sz_le ha.1 ha.2
  have s2 := sz_le hb.1 hb.2
  have p := fun W0 => plus_any a b _ _ _ _ _ _ W0 (wv_of ha) (wv_of hb) (by omega)
  have p' := Lib.hid p
  have o1' := Lib.hid o1
  have o2' := Lib.hid o2
  clear p o1 o2 s1 s2 ha hb
  go_enter Try.func51, Try.ntmps51
  go_wp2_with fail
  refine (o1'.out _).mono ?_
  rintro e w1 ⟨rfl, hb1⟩
  go_wp2_with fail
  refine (o2'.out _).mono ?_
  rintro e w2 ⟨rfl, hb2⟩
  go_wp2_with fail
  refine (p'.out _).mono ?_
  rintro e w3 ⟨⟨b3, h3, l3, rfl, hv⟩, hb3⟩
  have hv' := Lib.hid hv
  clear hv
  go_wp2_with fail
  refine (whole_any hv'.out _).mono ?_
  rintro e w4 ⟨rfl, hb4⟩
  go_wp2
  go_ret2
  exact ⟨rfl, hb1.trans ((hb2.mono hb1.size).trans ((hb3.mono (Nat.le_trans hb1.size hb2.size)).trans (hb4.mono (Nat.le_trans hb1.size (Nat.le_trans hb2.size hb3.size)))))⟩

theorem bthen {w w1 w2 : World} (h1 : Below w.heap.size w w1) (h2 : Below w1.heap.size w1 w2) : Below w.heap.size w w2 := h1.trans (h2.mono h1.size)

theorem bdrew (w : World) (n : Nat) : Below w.heap.size w (w.drewN n) := ⟨rfl, rfl, rfl, Nat.le_refl _, fun _ _ => rfl⟩

theorem Mul_any (a b : Int) (w : World) (ha : In64 a) (hb : In64 b) :
    Calls Try.prog 52 #[.int .i64 a, .int .i64 b] w fun e w' => e = .returned (.tuple #[.int .i64 (fitp (a * b)).1, .bool (fitp (a * b)).2]) ∧ Below w.heap.size w w' := by
  have p' := Lib.hid (fun W0 => product_any a b W0 ha.1 ha.2 hb.1 hb.2)
  have hv := Lib.hid (wv_mul ha hb)
  clear ha hb
  go_enter Try.func52, Try.ntmps52
  go_wp2_with fail
  refine (p'.out _).mono ?_
  rintro e w1 ⟨rfl, hw1⟩
  have hb1 : Below w.heap.size w w1 := by rw [hw1]; exact Z2c0
  clear hw1
  go_wp2_with fail
  refine (whole_any hv.out _).mono ?_
  rintro e w2 ⟨rfl, hb2⟩
  go_wp2
  go_ret2
  exact ⟨rfl, bthen hb1 hb2⟩

theorem Neg_any (a : Int) (w : World) (ha : In64 a) :
    Calls Try.prog 54 #[.int .i64 a] w fun e w' => e = .returned (.tuple #[.int .i64 (fitp (-a)).1, .bool (fitp (-a)).2]) ∧ Below w.heap.size w w' := by
  have o1' := Lib.hid (fun W0 => of_any a W0 ha.1 ha.2)
  have hv := Lib.hid (wv_neg (wv_of ha))
  clear ha
  go_enter Try.func54, Try.ntmps54
  go_wp2_with fail
  refine (o1'.out _).mono ?_
  rintro e w1 ⟨rfl, hb1⟩
  go_wp2_with fail
  refine (neg_any _ _ _ _).mono ?_
  rintro e w2 ⟨rfl, hw2⟩
  have hb2 : Below w1.heap.size w1 w2 := by rw [hw2]; exact Z2c0
  clear hw2
  go_wp2_with fail
  refine (whole_any hv.out _).mono ?_
  rintro e w3 ⟨rfl, hb3⟩
  go_wp2
  go_ret2
  exact ⟨rfl, bthen (bthen hb1 hb2) hb3⟩

theorem gcd_le {a b : Int} (ha : 0 ≤ a) (hb : 0 ≤ b) (h : a < 18446744073709551616) (h2 : b < 18446744073709551616) : (Int.gcd a b : Int) < 18446744073709551616 := by
  by_cases h0 : a = 0
  · subst h0; rw [Int.gcd_zero_left]; omega
  · have := Int.gcd_le_natAbs_left (b := b) h0
    omega

theorem gcd_sz (a b : Int) : Int.gcd (sz a) (sz b) = Int.gcd a b := by
  unfold sz
  split <;> split <;> simp

theorem Gcd_any (a b : Int) (w : World) (ha : In64 a) (hb : In64 b) :
    Calls Try.prog 58 #[.int .i64 a, .int .i64 b] w fun e w' => e = .returned (.tuple #[.int .i64 (fitp (Int.gcd a b)).1, .bool (fitp (Int.gcd a b)).2]) ∧ Below w.heap.size w w' := by
  have o1' := Lib.hid (fun W0 => size_any a W0 ha.1 ha.2)
  have o2' := Lib.hid (fun W0 => size_any b W0 hb.1 hb.2)
  have s1 := sz_le ha.1 ha.2
  have s2 := sz_le hb.1 hb.2
  have s3 := sz_nonneg a
  have s4 := sz_nonneg b
  have g' := Lib.hid (fun W0 => gcd_any (sz a) (sz b) W0 s3 (by omega) s4 (by omega))
  have hg := gcd_le s3 s4 (by omega) (by omega)
  rw [gcd_sz] at g' hg
  have hv : WV (Int.gcd a b) false 0 (Int.gcd a b) := ⟨by omega, by omega, by omega, by omega, by simp⟩
  have hv' := Lib.hid hv
  clear s1 s2 s3 s4 hg ha hb hv
  go_enter Try.func58, Try.ntmps58
  go_wp2_with fail
  refine (o1'.out _).mono ?_
  rintro e w1 ⟨rfl, rfl⟩
  go_wp2_with fail
  refine (o2'.out _).mono ?_
  rintro e w1 ⟨rfl, rfl⟩
  go_wp2_with fail
  refine (g'.out _).mono ?_
  rintro e w1 ⟨rfl, n, rfl⟩
  go_wp2_with fail
  refine (whole_any hv'.out _).mono ?_
  rintro e w3 ⟨rfl, hb3⟩
  go_wp2
  go_ret2
  exact ⟨rfl, bthen (bdrew _ n) hb3⟩

theorem Whole_any (a : Int) (w : World) : Calls Try.prog 43 #[.int .i64 a] w fun e w' => e = .returned (.agg #[.int .i64 a, .int .i64 1]) ∧ Below w.heap.size w w' := by
  go_enter Try.func43, Try.ntmps43
  go_wp2
  exact bodyPost_ret (v := .agg #[.int .i64 a, .int .i64 1]) (by simp [results, Try.results43, go_sem]) rfl ⟨rfl, Z2c0⟩

theorem right_any (p q : Int) (w : World) : Calls Try.prog 62 #[.agg #[.int .i64 p, .int .i64 q]] w fun e w' => e = .returned (.bool (decide (0 < q))) ∧ w' = w.alloc (.cells #[.int .i64 p, .int .i64 q] 29) := by
  go_enter Try.func62, Try.ntmps62
  go_wp2
  go_ret
  exact ⟨rfl, rfl⟩


def cmpI (x : Int) : Int := if x < 0 then -1 else if x = 0 then 0 else 1

theorem keepcell {W w1 : World} (hb : Below W.heap.size W w1) {b o : Nat} {v : Value} (h : W.cell? ⟨b, o, none⟩ = some v) : w1.cell? ⟨b, o, none⟩ = some v := by
  rw [hb.cell (p := ⟨b, o, none⟩) ?_, h]
  show b < W.heap.size
  by_cases hlt : b < W.heap.size
  · exact hlt
  · rw [World.cell?, Array.getElem?_eq_none (Nat.not_lt.1 hlt)] at h
    simp at h

theorem keepalloc {W : World} {o : Obj} {b i : Nat} {v : Value} (h : W.cell? ⟨b, i, none⟩ = some v) : (W.alloc o).cell? ⟨b, i, none⟩ = some v := by
  rw [World.cell?_alloc_some _ _ _ (by rw [h]; rfl), h]

theorem keepset {W : World} {g k b i : Nat} {u v : Value} (hb : b ≠ g) (h : W.cell? ⟨b, i, none⟩ = some v) : (W.setCell ⟨g, k, none⟩ u).cell? ⟨b, i, none⟩ = some v := by
  rw [World.cell?_setCell_far _ _ _ _ (Ne.symm hb), h]

theorem bgrow {W w1 : World} (hb : Below W.heap.size W w1) : (∀ b o, b < W.heap.size → w1.cell? ⟨b, o, none⟩ = W.cell? ⟨b, o, none⟩) ∧ (∀ b o, b < W.heap.size → w1.frozen? ⟨b, o, none⟩ = W.frozen? ⟨b, o, none⟩) ∧ ∀ b, b < W.heap.size → b < w1.heap.size :=
  ⟨(bcell hb).1, (bcell hb).2, fun b h => Nat.lt_of_lt_of_le h hb.size⟩

set_option maxHeartbeats 4000000 in
theorem Cmp_any (p q r s : Int) (w : World) (hp : In64 p) (hq : In64 q) (hr : In64 r) (hs : In64 s) :
    Calls Try.prog 56 #[.agg #[.int .i64 p, .int .i64 q], .agg #[.int .i64 r, .int .i64 s]] w fun e w' => e = .returned (.int .i64 (cmpI (p * s - r * q))) ∧ Below w.heap.size w w' := by
  have p1 := Lib.hid (fun W0 => product_any p s W0 hp.1 hp.2 hs.1 hs.2)
  have p2 := Lib.hid (fun W0 => product_any r q W0 hr.1 hr.2 hq.1 hq.2)
  have v1 := wv_mul hp hs
  have v2 := wv_neg (wv_mul hr hq)
  have m1 := wv_mul_small hp hs
  have m2 := wv_mul_small hr hq
  have pl := Lib.hid (fun W0 => plus_any _ _ _ _ _ _ _ _ W0 v1 v2 (by omega))
  clear v1 v2 m1 m2
  go_enter Try.func56, Try.ntmps56
  go_wp2
  go_region_held3 (fun w' => w'.cell? ⟨w.heap.size, 0, none⟩ = some (.int .i64 p) ∧ w'.cell? ⟨w.heap.size, 1, none⟩ = some (.int .i64 q) ∧ w'.cell? ⟨w.heap.size + 1, 0, none⟩ = some (.int .i64 r) ∧ w'.cell? ⟨w.heap.size + 1, 1, none⟩ = some (.int .i64 s))
    (first | (simp [go_sem]; done) | (go_split_ands; with_reducible exact ⟨keepcell Z2c1 Z2c2, keepcell Z2c1 Z2c2, keepcell Z2c1 Z2c2, keepcell Z2c1 Z2c2⟩) | (go_split_ands; with_reducible exact ⟨keepalloc (keepcell Z2c1 Z2c2), keepalloc (keepcell Z2c1 Z2c2), keepalloc (keepcell Z2c1 Z2c2), keepalloc (keepcell Z2c1 Z2c2)⟩) | (go_split_ands; with_reducible exact ⟨keepset (by omega) (keepset (by omega) (keepset (by omega) (keepcell Z2c1 Z2c2))), keepset (by omega) (keepset (by omega) (keepset (by omega) (keepcell Z2c1 Z2c2))), keepset (by omega) (keepset (by omega) (keepset (by omega) (keepcell Z2c1 Z2c2))), keepset (by omega) (keepset (by omega) (keepset (by omega) (keepcell Z2c1 Z2c2)))⟩))
    (first | ((with_reducible refine (p1.out _).mono ?_); rintro e w1 ⟨rfl, rfl⟩) | ((with_reducible refine (p2.out _).mono ?_); rintro e w2 ⟨rfl, rfl⟩) | ((with_reducible refine (neg_any _ _ _ _).mono ?_); rintro e w3 ⟨rfl, rfl⟩) | ((with_reducible refine (pl.out _).mono ?_); rintro e w4 ⟨⟨b3, h3, l3, rfl, hv⟩, hb4⟩; have hv' := Lib.hid hv; clear hv; obtain ⟨g1, g2, g3⟩ := bgrow hb4))
  all_goals
    have hbw : Below w.heap.size w w4 := Below.trans (by first | exact Z2c0 | exact Below.drew Z2c0) (hb4.mono Z2c3)
    have hz : w.heap.size + 2 ≤ w4.heap.size := by have := hb4.size; simp at this; omega
    obtain ⟨h0, h1, l0, l1, hx⟩ := hv'.out
    have hx' := Lib.hid hx
    clear hx hb4 p1 p2 pl
    by_cases c1 : h3 = 0
    · subst c1
      by_cases c2 : l3 = 0
      · subst c2
        go_wp2
        go_ret
        exact ⟨ret_int (by have := hx'.out; unfold cmpI; cases b3 <;> simp at this <;> (rw [if_neg (by omega), if_pos (by omega)])), Z2c0⟩
      · have e2 : (l3 == 0) = false := beq_eq_false_iff_ne.2 c2
        cases b3
        · go_wp2
          go_ret
          exact ⟨ret_int Z2c4, Z2c0⟩
        · go_wp2
          go_ret
          exact ⟨ret_int (by have := hx'.out; unfold cmpI; simp at this; rw [if_pos (by omega)]), Z2c0⟩
    · have e2 : (h3 == 0) = false := beq_eq_false_iff_ne.2 c1
      cases b3
      · go_wp2
        go_ret
        exact ⟨ret_int Z2c4, Z2c0⟩
      · go_wp2
        go_ret
        exact ⟨ret_int (by have := hx'.out; unfold cmpI; simp at this; rw [if_pos (by omega)]), Z2c0⟩

end Go.Proofs.Ytdkbnbebioflaaa.Num
end

section
/- Contracts of linear: must, fits and what it catches, sign. -/
namespace Go.Proofs
theorem Z160 {p : Prop} (h : p := by repeat (first | exact Below.refl _ _ | with_reducible assumption | refine Below.alloc ?_ (by first | exact Nat.le_refl _ | (simp; done) | (simp; omega) | omega) _ | refine Below.setCell ?_ (by first | exact Nat.le_refl _ | (simp; done) | (simp; omega) | omega) _ | refine Below.drew ?_ | refine bdrewN ?_ _)) : p := h
end Go.Proofs
namespace Go.Proofs.Ytdkbnbebioflaaa.Ln
open Go.RowKit Go.Proofs.Ytdkbnbebioflaaa.Num
set_option linter.unusedVariables false
set_option linter.unusedSimpArgs false

theorem run_largeL (w : World) : (Instr.panic (Value.iface 77 (Value.agg #[]))).run Try.prog w = .halt (.panic (Value.iface 77 (Value.agg #[]))) w := by kernel_rfl
/-- The panic of linear. -/
def LargeL : List PanicEntry := [{ v := .iface 77 (.agg #[]), recovered := false }]

/-- must[num.Rat], must[int64]: what fits. -/
theorem mustR_ok (p q : Int) (w : World) :
    Calls Try.prog 44 #[.agg #[.int .i64 p, .int .i64 q], .bool true] w fun e w' => e = .returned (.agg #[.int .i64 p, .int .i64 q]) ∧ Below w.heap.size w w' := by
  go_enter Try.func44, Try.ntmps44
  go_wp2
  simp [bodyPost, results, Try.results44, go_sem]
  exact Z160
theorem mustR_no (p q : Int) (w : World) :
    Calls Try.prog 44 #[.agg #[.int .i64 p, .int .i64 q], .bool false] w fun e w' => e = .panicked LargeL ∧ Below w.heap.size w w' := by
  have hp := run_largeL
  go_enter Try.func44, Try.ntmps44
  go_wp2
  exact ⟨rfl, rfl, Z160⟩
theorem must64_ok (p : Int) (w : World) :
    Calls Try.prog 50 #[.int .i64 p, .bool true] w fun e w' => e = .returned (.int .i64 p) ∧ w' = w := by
  go_enter Try.func50, Try.ntmps50
  go_wp2
  go_ret
  exact ⟨rfl, rfl⟩
theorem must64_no (p : Int) (w : World) :
    Calls Try.prog 50 #[.int .i64 p, .bool false] w fun e w' => e = .panicked LargeL ∧ w' = w := by
  have hp := run_largeL
  go_enter Try.func50, Try.ntmps50
  go_wp2
  exact ⟨rfl, rfl, rfl⟩

/-- What may have turned: blocks of S, and what is new. -/
structure Fp (S : Nat → Prop) (w w' : World) : Prop where
  os : w'.os = w.os
  tape : w'.tape = w.tape
  output : w'.output = w.output
  size : w.heap.size ≤ w'.heap.size
  block : ∀ k, k < w.heap.size → ¬ S k → w'.heap[k]? = w.heap[k]?
namespace Fp
variable {S T : Nat → Prop} {w w' w'' : World}
theorem refl (S : Nat → Prop) (w : World) : Fp S w w := ⟨rfl, rfl, rfl, Nat.le_refl _, fun _ _ _ => rfl⟩
theorem trans (h : Fp S w w') (k : Fp T w' w'') (hT : ∀ i, i < w.heap.size → T i → S i) : Fp S w w'' :=
  ⟨k.os.trans h.os, k.tape.trans h.tape, k.output.trans h.output, Nat.le_trans h.size k.size, fun i hi hn => (k.block i (Nat.lt_of_lt_of_le hi h.size) (fun t => hn (hT i hi t))).trans (h.block i hi hn)⟩
theorem tr (h : Fp S w w') (k : Fp S w' w'') : Fp S w w'' := h.trans k fun _ _ h => h
theorem imp (h : Fp S w w') (hT : ∀ i, i < w.heap.size → S i → T i) : Fp T w w' := ⟨h.os, h.tape, h.output, h.size, fun i hi hn => h.block i hi fun t => hn (hT i hi t)⟩
theorem of_below (h : Below w.heap.size w w') : Fp S w w' := ⟨h.os, h.tape, h.output, h.size, fun k hk _ => h.block k hk⟩
theorem below (h : Fp S w w') {b : Nat} (hb : b ≤ w.heap.size) (hS : ∀ i, i < b → ¬ S i) : Below b w w' := ⟨h.os, h.tape, h.output, h.size, fun k hk => h.block k (Nat.lt_of_lt_of_le hk hb) (hS k hk)⟩
theorem alloc (h : Fp S w w') (o : Obj) : Fp S w (w'.alloc o) := h.trans (of_below (S := S) ((Below.refl _ _).alloc (Nat.le_refl _) _)) fun _ _ h => h
theorem setCell (h : Fp S w w') {a : Addr} (ha : a.block < w.heap.size → S a.block) (v : Value) : Fp S w (w'.setCell a v) :=
  h.trans (T := fun k => k = a.block) ⟨rfl, rfl, rfl, by simp, fun k hk hn => Below.heap_setCell w' a v k hn⟩ (by rintro i hi rfl; exact ha hi)
theorem drewN (h : Fp S w w') (n : Nat) : Fp S w (w'.drewN n) := ⟨h.os, h.tape, h.output, h.size, h.block⟩
end Fp

theorem assert_largeL (w : World) : (Instr.typeAssert (.iface 77 (.agg #[])) 20 77 true).run Try.prog w = .ok (.tuple #[.agg #[], .bool true]) w := by kernel_rfl

set_option maxHeartbeats 4000000 in
theorem catch_panicking (q : Nat) (y0 : Bool) (w : World) (hq : w.cell? ⟨q, 0, none⟩ = some (.bool y0)) (hzq : w.frozen? ⟨q, 0, none⟩ = false) (hql : q < w.heap.size) :
    CallsD Try.prog 42 #[.pointer (some ⟨q, 0, none⟩)] (.panicking LargeL) w fun e u' w' =>
      e = .returned (.tuple #[]) ∧ u' = .panicking [{ v := .iface 77 (.agg #[]), recovered := true }] ∧ w' = (w.setCell ⟨q, 0, none⟩ (.bool false)).alloc (.cells #[] 77) := by
  have ht := assert_largeL
  unfold LargeL
  refine callsD_of_wpS Try.func42 rfl fun c₀ cs hu => ?_
  apply wpS_seq
  apply wpS_region
  simp [wpOpsS, go_sem, recoverD, hu, Try.ntmps42, Exit.thenS]
  refine wpS_of_wp ?_
  go_wp2
  simp [bodyPostS, results, Try.results42]

theorem catch_idle (q : Value) (w : World) :
    CallsD Try.prog 42 #[q] .returning w fun e u' w' => e = .returned (.tuple #[]) ∧ u' = .returning ∧ w' = w := by
  refine callsD_of_wpS Try.func42 rfl fun c₀ cs hu => ?_
  apply wpS_seq
  apply wpS_region
  simp [wpOpsS, go_sem, recoverD, hu, Try.ntmps42, Exit.thenS]
  refine wpS_of_wp ?_
  go_wp2
  cases c₀
  simp_all [bodyPostS, results, Try.results42]

theorem fits_ok (g : Nat) (cap : Array Value) (S : Nat → Prop) (Q : World → Prop) (w : World) (hS : ∀ k, S k → k < w.heap.size) (hcf : ∀ W, (callFunc g cap).run Try.prog W = .ok (.enter g cap) W)
    (h : ∀ W, Below w.heap.size w W → Calls Try.prog g cap W fun e W' => e = .returned (.tuple #[]) ∧ Fp S W W' ∧ Q W') :
    Calls Try.prog 20 #[.func (.func g) #[] cap] w fun e w' => e = .returned (.bool true) ∧ Fp S w w' ∧ ∃ W', Q W' ∧ W'.heap.size ≤ w'.heap.size ∧ ∀ k, k < W'.heap.size → k ≠ w.heap.size → w'.heap[k]? = W'.heap[k]? := by
  have hmf := run_makeFunc
  have H := Lib.hid h
  have HS := Lib.hid hS
  clear h hS
  go_enter_defers Try.func20, Try.ntmps20
  go_wp2_with fail
  refine (H.out _ Z160).mono ?_
  rintro e w1 ⟨rfl, hb1, hQ⟩
  have hz := hb1.size
  simp at hz
  have hblk : w1.heap[w.heap.size]? = some (.cells #[.bool false] 4 (0, 0)) := by
    rw [hb1.block _ (by simp) (fun hk => by have := HS.out _ hk; omega)]; exact heap_alloc_new w _
  have c2 : w1.cell? ⟨w.heap.size, 0, none⟩ = some (.bool false) := by simp [World.cell?, hblk]
  have f2 : w1.frozen? ⟨w.heap.size, 0, none⟩ = false := by simp [World.frozen?, hblk]
  have hb2 : Fp S w w1 := ((Fp.refl S w).alloc _).tr hb1
  have hb3 := Lib.hid (show Fp S w w1 ∧ Q w1 from ⟨hb2, hQ⟩)
  clear hb1 hb2 hQ hblk
  go_wp2
  refine leaves_cons (f := 42) (args := #[.pointer (some ⟨w.heap.size, 0, none⟩)]) (by simp) (by simp [go_sem]) ?_
  refine (catch_idle _ _).mono ?_
  rintro e u' w'' ⟨rfl, rfl, rfl⟩
  obtain ⟨hb2, hQ⟩ := hb3.out
  have k1 : w.heap.size < w1.heap.size := by omega
  simp [Leaves, settle, results, Try.results20, go_sem, c2, k1]
  exact ⟨hb2.setCell (by simp) _, w1, hQ, by simp, fun k hk hne => Below.heap_setCell _ ⟨w.heap.size, 0, none⟩ _ k hne⟩

theorem fits_no (g : Nat) (cap : Array Value) (S : Nat → Prop) (Q : World → Prop) (w : World) (hS : ∀ k, S k → k < w.heap.size) (hcf : ∀ W, (callFunc g cap).run Try.prog W = .ok (.enter g cap) W)
    (h : ∀ W, Below w.heap.size w W → Calls Try.prog g cap W fun e W' => e = .panicked LargeL ∧ Fp S W W' ∧ Q W') :
    Calls Try.prog 20 #[.func (.func g) #[] cap] w fun e w' => e = .returned (.bool false) ∧ Fp S w w' ∧ ∃ W', Q W' ∧ W'.heap.size ≤ w'.heap.size ∧ ∀ k, k < W'.heap.size → k ≠ w.heap.size → w'.heap[k]? = W'.heap[k]? := by
  have hmf := run_makeFunc
  have H := Lib.hid h
  have HS := Lib.hid hS
  clear h hS
  go_enter_defers Try.func20, Try.ntmps20
  go_wp2_with fail
  refine (H.out _ Z160).mono ?_
  rintro e w1 ⟨rfl, hb1, hQ⟩
  have hz := hb1.size
  simp at hz
  have hblk : w1.heap[w.heap.size]? = some (.cells #[.bool false] 4 (0, 0)) := by
    rw [hb1.block _ (by simp) (fun hk => by have := HS.out _ hk; omega)]; exact heap_alloc_new w _
  have c2 : w1.cell? ⟨w.heap.size, 0, none⟩ = some (.bool false) := by simp [World.cell?, hblk]
  have f2 : w1.frozen? ⟨w.heap.size, 0, none⟩ = false := by simp [World.frozen?, hblk]
  have hb2 : Fp S w w1 := ((Fp.refl S w).alloc _).tr hb1
  have hb3 := Lib.hid (show Fp S w w1 ∧ Q w1 from ⟨hb2, hQ⟩)
  clear hb1 hb2 hQ hblk
  go_wp2
  refine leaves_cons (f := 42) (args := #[.pointer (some ⟨w.heap.size, 0, none⟩)]) (by simp) (by simp [go_sem]) ?_
  refine (catch_panicking _ false _ c2 f2 (by omega)).mono ?_
  rintro e u' w'' ⟨rfl, rfl, rfl⟩
  obtain ⟨hb2, hQ⟩ := hb3.out
  have k1 : w.heap.size < w1.heap.size := by omega
  simp [Leaves, settle, results, Try.results20, go_sem, c2, k1]
  exact ⟨(hb2.setCell (by simp) _).alloc _, w1, hQ, by simp, fun k hk hne => (Below.heap_alloc _ _ _ (by simp; omega)).trans (Below.heap_setCell _ ⟨w.heap.size, 0, none⟩ _ k hne)⟩

end Go.Proofs.Ytdkbnbebioflaaa.Ln
end
