import Derived.Test.YtbpjnkeilhfajaaGreatNumO
import Derived.Test.YtbpjnkeilhfajaaGreatNumN
import Derived.Test.YtbpjnkeilhfajaaGreatNumT
section
/- Contracts of num: what Times and Over answer at large numbers. -/
namespace Go.Proofs.YtbpjnkeilhfajaaGreat.Num
open Go.RowKit
set_option linter.unusedVariables false
set_option linter.unusedSimpArgs false
theorem cf_times1 (args : Array Value) (w : World) : (callFunc 118 args).run Tryz.prog w = .ok (.enter 118 args) w := by kernel_rfl
theorem cf_over1 (args : Array Value) (w : World) : (callFunc 124 args).run Tryz.prog w = .ok (.enter 124 args) w := by kernel_rfl
def timesX (p q r s : Int) : Int := if sg p r = true then -(sz p / (Int.gcd p s : Int) * (sz r / (Int.gcd r q : Int))) else sz p / (Int.gcd p s : Int) * (sz r / (Int.gcd r q : Int))
def timesL (p q r s : Int) : Int × Int × Bool := both (timesX p q r s) (q / (Int.gcd r q : Int) * (s / (Int.gcd p s : Int)))
theorem times1_fits (p q r s : Int) (w : World) (ba bb : Nat) (hp : In64 p) (hq : In64 q) (hr : In64 r) (hs : In64 s) (q0 : 0 < q) (s0 : 0 < s)
  (ca : w.cell? ⟨ba, 0, none⟩ = some (.int .i64 p)) (ca1 : w.cell? ⟨ba, 1, none⟩ = some (.int .i64 q)) (cb : w.cell? ⟨bb, 0, none⟩ = some (.int .i64 r)) (cb1 : w.cell? ⟨bb, 1, none⟩ = some (.int .i64 s)) :
  Calls Tryz.prog 60 #[.func (.func 118) #[] #[.pointer (some ⟨ba, 0, none⟩), .pointer (some ⟨bb, 0, none⟩)]] w fun e w' => e = .returned (RB (timesL p q r s)) ∧ Below w.heap.size w w' := by
 unfold timesL both
 by_cases hf : In64 (timesX p q r s) ∧ In64 (q / (Int.gcd r q : Int) * (s / (Int.gcd p s : Int)))
 ·rw [if_pos hf]
  exact fitsR_ok _ _ _ _ w (cf_times1 _) (fun W hW => times1_ok p q r s _ _ _ _ _ _ ba bb W hp hq hr hs q0 s0 (keepcell hW ca) (keepcell hW ca1) (keepcell hW cb) (keepcell hW cb1) rfl rfl rfl rfl rfl rfl _ rfl hf)
 ·rw [if_neg hf]
  exact fitsR_no _ _ w (cf_times1 _) (fun W hW => times1_no p q r s _ _ _ _ _ _ ba bb W hp hq hr hs q0 s0 (keepcell hW ca) (keepcell hW ca1) (keepcell hW cb) (keepcell hW cb1) rfl rfl rfl rfl rfl rfl _ rfl hf)
def overX (p q r s : Int) : Int := if sg p r = true then -(sz p / (Int.gcd p r : Int) * (s / (Int.gcd s q : Int))) else sz p / (Int.gcd p r : Int) * (s / (Int.gcd s q : Int))
def overL (p q r s : Int) : Int × Int × Bool := both (overX p q r s) (q / (Int.gcd s q : Int) * (sz r / (Int.gcd p r : Int)))
theorem over1_fits (p q r s : Int) (w : World) (ba bb : Nat) (hp : In64 p) (hq : In64 q) (hr : In64 r) (hs : In64 s) (q0 : 0 < q) (s0 : 0 < s) (r0 : r ≠ 0)
  (ca : w.cell? ⟨ba, 0, none⟩ = some (.int .i64 p)) (ca1 : w.cell? ⟨ba, 1, none⟩ = some (.int .i64 q)) (cb : w.cell? ⟨bb, 0, none⟩ = some (.int .i64 r)) (cb1 : w.cell? ⟨bb, 1, none⟩ = some (.int .i64 s)) :
  Calls Tryz.prog 60 #[.func (.func 124) #[] #[.pointer (some ⟨bb, 0, none⟩), .pointer (some ⟨ba, 0, none⟩)]] w fun e w' => e = .returned (RB (overL p q r s)) ∧ Below w.heap.size w w' := by
 unfold overL both
 by_cases hf : In64 (overX p q r s) ∧ In64 (q / (Int.gcd s q : Int) * (sz r / (Int.gcd p r : Int)))
 ·rw [if_pos hf]
  exact fitsR_ok _ _ _ _ w (cf_over1 _) (fun W hW => over1_ok p q r s _ _ _ _ _ _ _ ba bb W hp hq hr hs q0 s0 r0 (keepcell hW ca) (keepcell hW ca1) (keepcell hW cb) (keepcell hW cb1) rfl rfl rfl rfl rfl rfl rfl hf)
 ·rw [if_neg hf]
  exact fitsR_no _ _ w (cf_over1 _) (fun W hW => over1_no p q r s _ _ _ _ _ _ _ ba bb W hp hq hr hs q0 s0 r0 (keepcell hW ca) (keepcell hW ca1) (keepcell hW cb) (keepcell hW cb1) rfl rfl rfl rfl rfl rfl rfl hf)
end Go.Proofs.YtbpjnkeilhfajaaGreat.Num
end

section
/- Contracts of num: Times, Over. -/
namespace Go.Proofs
theorem Z2x0 {p : Prop} (h : p := by repeat (first | exact Below.refl _ _ | with_reducible assumption | refine Below.alloc ?_ (by first | exact Nat.le_refl _ | (simp; done) | (simp; omega) | omega) _ | refine Below.setCell ?_ (by first | exact Nat.le_refl _ | (simp; done) | (simp; omega) | omega) _ | refine Below.drew ?_ | refine bdrewN ?_ _)) : p := h
theorem Z2x1 {p : Prop} (h : p := by first | exact Nat.le_refl _ | (simp; done) | (simp; omega) | omega) : p := h
theorem Z2x2 {p : Prop} (h : p := by simp [results, Tryz.results87, go_sem, z0, z1]) : p := h
theorem Z2x3 {p : Prop} (h : p := by simp [go_sem]) : p := h
theorem Z2x4 {p : Prop} (h : p := by simp [results, Tryz.results101, go_sem]) : p := h
theorem Z2x5 {p : Prop} (h : p := by simp [results, Tryz.results101, go_sem, z0, z1]) : p := h
end Go.Proofs
namespace Go.Proofs.YtbpjnkeilhfajaaGreat.Num
open Go.RowKit
set_option linter.unusedVariables false
set_option linter.unusedSimpArgs false
theorem times_wrong (p q r s : Int) (w : World) (h : ¬ (0 < q ∧ 0 < s)) :
  Calls Tryz.prog 87 #[RV p q, RV r s] w fun e w' => e = .returned (RB (0, 0, false)) ∧ Below w.heap.size w w' := by
 by_cases hq : 0 < q
 ·have hs : ¬ 0 < s := fun k => h ⟨hq, k⟩
  have e1 : decide (0 < q) = true := decide_eq_true hq
  have e2 : decide (0 < s) = false := decide_eq_false hs
  clear h hq hs
  go_enter Tryz.func87, Tryz.ntmps87
  go_wp2_with fail
  refine (right_any _ _ _).mono ?_
  rintro e w1 ⟨rfl, rfl⟩
  rw [e1]
  go_wp2_with fail
  refine (right_any _ _ _).mono ?_
  rintro e w1 ⟨rfl, rfl⟩
  rw [e2]
  go_wp2
  exact bodyPost_ret (v := RB (0, 0, false)) (by simp [results, Tryz.results87, go_sem]) rfl ⟨rfl, Z2x0⟩
 ·have e1 : decide (0 < q) = false := decide_eq_false hq
  clear h hq
  go_enter Tryz.func87, Tryz.ntmps87
  go_wp2_with fail
  refine (right_any _ _ _).mono ?_
  rintro e w1 ⟨rfl, rfl⟩
  rw [e1]
  go_wp2
  exact bodyPost_ret (v := RB (0, 0, false)) (by simp [results, Tryz.results87, go_sem]) rfl ⟨rfl, Z2x0⟩
theorem times_small (p q r s : Int) (w : World) (hq : 0 < q) (hs : 0 < s) (k1 : smallB p q = true) (k2 : smallB r s = true) :
  Calls Tryz.prog 87 #[RV p q, RV r s] w fun e w' => e = .returned (RB (mk (p * r) (q * s))) ∧ Below w.heap.size w w' := by
 have c1 := of_decide_eq_true k1
 have c2 := of_decide_eq_true k2
 have m1 := small_mul (a := p) (b := r) (by omega) (by omega) (by omega) (by omega)
 have m3 := small_mul (a := q) (b := s) (by omega) (by omega) (by omega) (by omega)
 have m4 := Int.mul_pos (a := q) (b := s) (by omega) (by omega)
 have e1 : decide (0 < q) = true := decide_eq_true hq
 have e2 : decide (0 < s) = true := decide_eq_true hs
 have w1 : wrap64 (p * r) = p * r := by unfold wrap64; omega
 have w3 : wrap64 (q * s) = q * s := by unfold wrap64; omega
 have hD : In64 (q * s) := ⟨by omega, by omega⟩
 have hN : In64 (p * r) := ⟨by omega, by omega⟩
 have low := Lib.hid (fun W0 => lowest_any (p * r) (q * s) W0 hN hD m4)
 rw [mk_small hN hD m4]
 clear c1 c2 m1 m3 m4 hq hs hD hN
 go_enter Tryz.func87, Tryz.ntmps87
 go_wp2_with fail
 refine (right_any _ _ _).mono ?_
 rintro e w1 ⟨rfl, rfl⟩
 rw [e1]
 go_wp2_with fail
 refine (right_any _ _ _).mono ?_
 rintro e w1 ⟨rfl, rfl⟩
 rw [e2]
 go_wp2_with fail
 refine (small_any _ _ _).mono ?_
 rintro e w1 ⟨rfl, rfl⟩
 rw [k1]
 go_wp2_with fail
 refine (small_any _ _ _).mono ?_
 rintro e w1 ⟨rfl, rfl⟩
 rw [k2]
 go_wp2_with fail
 refine (low.out _).mono ?_
 rintro e w1 ⟨rfl, hb1⟩
 obtain ⟨g1, g2, g3⟩ := bgrow hb1
 have hbw : Below w.heap.size w w1 := by refine Below.trans ?_ (hb1.mono Z2x1); exact Z2x0
 have z0 : w1.cell? ⟨w.heap.size + 1 + 1, 0, none⟩ = some (.int .i64 0) := by rw [g1 _ _ Z2x1]; simp [go_sem]
 have z1 : w1.cell? ⟨w.heap.size + 1 + 1, 1, none⟩ = some (.int .i64 0) := by rw [g1 _ _ Z2x1]; simp [go_sem]
 go_wp2
 exact bodyPost_ret (v := RB (lowP (p * r) (q * s), lowQ (p * r) (q * s), true)) Z2x2 rfl ⟨rfl, Z2x0⟩
theorem times_large (p q r s : Int) (w : World) (hp : In64 p) (hq : In64 q) (hr : In64 r) (hs : In64 s) (q0 : 0 < q) (s0 : 0 < s) (hk : ¬ (smallB p q = true ∧ smallB r s = true)) :
  Calls Tryz.prog 87 #[RV p q, RV r s] w fun e w' => e = .returned (RB (timesL p q r s)) ∧ Below w.heap.size w w' := by
 have hmf := run_makeFunc
 have ff := Lib.hid (fun (W0 : World) (ba bb : Nat) => times1_fits p q r s W0 ba bb hp hq hr hs q0 s0)
 have e1 : decide (0 < q) = true := decide_eq_true q0
 have e2 : decide (0 < s) = true := decide_eq_true s0
 clear hp hq hr hs q0 s0
 generalize timesL p q r s = z at *
 obtain ⟨x, y, b⟩ := z
 rcases smallB_cases p q r s hk with k1 | ⟨k1, k2⟩
 all_goals clear hk
 ·go_enter Tryz.func87, Tryz.ntmps87
  go_wp2_with fail
  refine (right_any _ _ _).mono ?_
  rintro e w1 ⟨rfl, rfl⟩
  rw [e1]
  go_wp2_with fail
  refine (right_any _ _ _).mono ?_
  rintro e w1 ⟨rfl, rfl⟩
  rw [e2]
  go_wp2_with fail
  refine (small_any _ _ _).mono ?_
  rintro e w1 ⟨rfl, rfl⟩
  rw [k1]
  go_wp2_with fail
  refine (ff.out _ _ _ Z2x3 Z2x3 Z2x3 Z2x3).mono ?_
  rintro e w1 ⟨rfl, hb1⟩
  obtain ⟨g1, g2, g3⟩ := bgrow hb1
  have hbw : Below w.heap.size w w1 := by refine Below.trans ?_ (hb1.mono Z2x1); exact Z2x0
  have z0 : w1.cell? ⟨w.heap.size + 1 + 1, 0, none⟩ = some (.int .i64 0) := by rw [g1 _ _ Z2x1]; simp [go_sem]
  have z1 : w1.cell? ⟨w.heap.size + 1 + 1, 1, none⟩ = some (.int .i64 0) := by rw [g1 _ _ Z2x1]; simp [go_sem]
  go_wp2
  exact bodyPost_ret (v := RB (x, y, b)) Z2x2 rfl ⟨rfl, Z2x0⟩
 ·go_enter Tryz.func87, Tryz.ntmps87
  go_wp2_with fail
  refine (right_any _ _ _).mono ?_
  rintro e w1 ⟨rfl, rfl⟩
  rw [e1]
  go_wp2_with fail
  refine (right_any _ _ _).mono ?_
  rintro e w1 ⟨rfl, rfl⟩
  rw [e2]
  go_wp2_with fail
  refine (small_any _ _ _).mono ?_
  rintro e w1 ⟨rfl, rfl⟩
  rw [k1]
  go_wp2_with fail
  refine (small_any _ _ _).mono ?_
  rintro e w1 ⟨rfl, rfl⟩
  rw [k2]
  go_wp2_with fail
  refine (ff.out _ _ _ Z2x3 Z2x3 Z2x3 Z2x3).mono ?_
  rintro e w1 ⟨rfl, hb1⟩
  obtain ⟨g1, g2, g3⟩ := bgrow hb1
  have hbw : Below w.heap.size w w1 := by refine Below.trans ?_ (hb1.mono Z2x1); exact Z2x0
  have z0 : w1.cell? ⟨w.heap.size + 1 + 1, 0, none⟩ = some (.int .i64 0) := by rw [g1 _ _ Z2x1]; simp [go_sem]
  have z1 : w1.cell? ⟨w.heap.size + 1 + 1, 1, none⟩ = some (.int .i64 0) := by rw [g1 _ _ Z2x1]; simp [go_sem]
  go_wp2
  exact bodyPost_ret (v := RB (x, y, b)) Z2x2 rfl ⟨rfl, Z2x0⟩
theorem over_wrong (p q r s : Int) (w : World) (h : ¬ (0 < q ∧ 0 < s)) :
  Calls Tryz.prog 101 #[RV p q, RV r s] w fun e w' => e = .returned (RB (0, 0, false)) ∧ Below w.heap.size w w' := by
 by_cases hq : 0 < q
 ·have hs : ¬ 0 < s := fun k => h ⟨hq, k⟩
  have e1 : decide (0 < q) = true := decide_eq_true hq
  have e2 : decide (0 < s) = false := decide_eq_false hs
  clear h hq hs
  go_enter Tryz.func101, Tryz.ntmps101
  go_wp2_with fail
  refine (right_any _ _ _).mono ?_
  rintro e w1 ⟨rfl, rfl⟩
  rw [e1]
  go_wp2_with fail
  refine (right_any _ _ _).mono ?_
  rintro e w1 ⟨rfl, rfl⟩
  rw [e2]
  go_wp2
  exact bodyPost_ret (v := RB (0, 0, false)) Z2x4 rfl ⟨rfl, Z2x0⟩
 ·have e1 : decide (0 < q) = false := decide_eq_false hq
  clear h hq
  go_enter Tryz.func101, Tryz.ntmps101
  go_wp2_with fail
  refine (right_any _ _ _).mono ?_
  rintro e w1 ⟨rfl, rfl⟩
  rw [e1]
  go_wp2
  exact bodyPost_ret (v := RB (0, 0, false)) Z2x4 rfl ⟨rfl, Z2x0⟩
theorem over_nought (p q s : Int) (w : World) (q0 : 0 < q) (s0 : 0 < s) :
  Calls Tryz.prog 101 #[RV p q, RV 0 s] w fun e w' => e = .returned (RB (0, 0, false)) ∧ Below w.heap.size w w' := by
 have e1 : decide (0 < q) = true := decide_eq_true q0
 have e2 : decide (0 < s) = true := decide_eq_true s0
 clear q0 s0
 go_enter Tryz.func101, Tryz.ntmps101
 go_wp2_with fail
 refine (right_any _ _ _).mono ?_
 rintro e w1 ⟨rfl, rfl⟩
 rw [e1]
 go_wp2_with fail
 refine (right_any _ _ _).mono ?_
 rintro e w1 ⟨rfl, rfl⟩
 rw [e2]
 go_wp2
 exact bodyPost_ret (v := RB (0, 0, false)) Z2x4 rfl ⟨rfl, Z2x0⟩
theorem over_small (p q r s : Int) (w : World) (hq : 0 < q) (hs : 0 < s) (r0 : 0 < r) (k1 : smallB p q = true) (k2 : smallB r s = true) :
  Calls Tryz.prog 101 #[RV p q, RV r s] w fun e w' => e = .returned (RB (mk (p * s) (q * r))) ∧ Below w.heap.size w w' := by
 have c1 := of_decide_eq_true k1
 have c2 := of_decide_eq_true k2
 have m1 := small_mul (a := p) (b := s) (by omega) (by omega) (by omega) (by omega)
 have m3 := small_mul (a := q) (b := r) (by omega) (by omega) (by omega) (by omega)
 have m4 := Int.mul_pos (a := q) (b := r) (by omega) (by omega)
 have e1 : decide (0 < q) = true := decide_eq_true hq
 have e2 : decide (0 < s) = true := decide_eq_true hs
 have e3 : decide (0 < r) = true := decide_eq_true r0
 have e4 : (r == 0) = false := beq_eq_false_iff_ne.2 (by omega)
 have w1 : wrap64 (p * s) = p * s := by unfold wrap64; omega
 have w3 : wrap64 (q * r) = q * r := by unfold wrap64; omega
 have hD : In64 (q * r) := ⟨by omega, by omega⟩
 have hN : In64 (p * s) := ⟨by omega, by omega⟩
 have low := Lib.hid (fun W0 => lowest_any (p * s) (q * r) W0 hN hD m4)
 rw [mk_small hN hD m4]
 clear c1 c2 m1 m3 m4 hq hs hD hN
 go_enter Tryz.func101, Tryz.ntmps101
 go_wp2_with fail
 refine (right_any _ _ _).mono ?_
 rintro e w1 ⟨rfl, rfl⟩
 rw [e1]
 go_wp2_with fail
 refine (right_any _ _ _).mono ?_
 rintro e w1 ⟨rfl, rfl⟩
 rw [e2]
 go_wp2_with fail
 refine (small_any _ _ _).mono ?_
 rintro e w1 ⟨rfl, rfl⟩
 rw [k1]
 go_wp2_with fail
 refine (small_any _ _ _).mono ?_
 rintro e w1 ⟨rfl, rfl⟩
 rw [k2]
 go_wp2_with fail
 refine (low.out _).mono ?_
 rintro e w1 ⟨rfl, hb1⟩
 obtain ⟨g1, g2, g3⟩ := bgrow hb1
 have hbw : Below w.heap.size w w1 := by refine Below.trans ?_ (hb1.mono Z2x1); exact Z2x0
 have z0 : w1.cell? ⟨w.heap.size + 1 + 1, 0, none⟩ = some (.int .i64 0) := by rw [g1 _ _ Z2x1]; simp [go_sem]
 have z1 : w1.cell? ⟨w.heap.size + 1 + 1, 1, none⟩ = some (.int .i64 0) := by rw [g1 _ _ Z2x1]; simp [go_sem]
 go_wp2
 exact bodyPost_ret (v := RB (lowP (p * s) (q * r), lowQ (p * s) (q * r), true)) Z2x5 rfl ⟨rfl, Z2x0⟩
theorem over_large (p q r s : Int) (w : World) (hp : In64 p) (hq : In64 q) (hr : In64 r) (hs : In64 s) (q0 : 0 < q) (s0 : 0 < s) (r0 : r ≠ 0) (hk : ¬ (smallB p q = true ∧ smallB r s = true ∧ 0 < r)) :
  Calls Tryz.prog 101 #[RV p q, RV r s] w fun e w' => e = .returned (RB (overL p q r s)) ∧ Below w.heap.size w w' := by
 have hmf := run_makeFunc
 have ff := Lib.hid (fun (W0 : World) (ba bb : Nat) => over1_fits p q r s W0 ba bb hp hq hr hs q0 s0 r0)
 have e1 : decide (0 < q) = true := decide_eq_true q0
 have e2 : decide (0 < s) = true := decide_eq_true s0
 have e4 : (r == 0) = false := beq_eq_false_iff_ne.2 r0
 have hc : smallB p q = false ∨ (smallB p q = true ∧ smallB r s = false) ∨ (smallB p q = true ∧ smallB r s = true ∧ decide (0 < r) = false) := by
  by_cases h3 : smallB p q = true ∧ smallB r s = true
  ·exact .inr (.inr ⟨h3.1, h3.2, decide_eq_false (fun h => hk ⟨h3.1, h3.2, h⟩)⟩)
  ·rcases smallB_cases p q r s h3 with h | h
   ·exact .inl h
   ·exact .inr (.inl h)
 clear hp hq hr hs q0 s0 r0 hk
 generalize overL p q r s = z at *
 obtain ⟨x, y, b⟩ := z
 rcases hc with k1 | ⟨k1, k2⟩ | ⟨k1, k2, k3⟩
 ·go_enter Tryz.func101, Tryz.ntmps101
  go_wp2_with fail
  refine (right_any _ _ _).mono ?_
  rintro e w1 ⟨rfl, rfl⟩
  rw [e1]
  go_wp2_with fail
  refine (right_any _ _ _).mono ?_
  rintro e w1 ⟨rfl, rfl⟩
  rw [e2]
  go_wp2_with fail
  refine (small_any _ _ _).mono ?_
  rintro e w1 ⟨rfl, rfl⟩
  rw [k1]
  go_wp2_with fail
  refine (ff.out _ _ _ Z2x3 Z2x3 Z2x3 Z2x3).mono ?_
  rintro e w1 ⟨rfl, hb1⟩
  obtain ⟨g1, g2, g3⟩ := bgrow hb1
  have hbw : Below w.heap.size w w1 := by refine Below.trans ?_ (hb1.mono Z2x1); exact Z2x0
  have z0 : w1.cell? ⟨w.heap.size + 1 + 1, 0, none⟩ = some (.int .i64 0) := by rw [g1 _ _ Z2x1]; simp [go_sem]
  have z1 : w1.cell? ⟨w.heap.size + 1 + 1, 1, none⟩ = some (.int .i64 0) := by rw [g1 _ _ Z2x1]; simp [go_sem]
  go_wp2
  exact bodyPost_ret (v := RB (x, y, b)) Z2x5 rfl ⟨rfl, Z2x0⟩
 ·go_enter Tryz.func101, Tryz.ntmps101
  go_wp2_with fail
  refine (right_any _ _ _).mono ?_
  rintro e w1 ⟨rfl, rfl⟩
  rw [e1]
  go_wp2_with fail
  refine (right_any _ _ _).mono ?_
  rintro e w1 ⟨rfl, rfl⟩
  rw [e2]
  go_wp2_with fail
  refine (small_any _ _ _).mono ?_
  rintro e w1 ⟨rfl, rfl⟩
  rw [k1]
  go_wp2_with fail
  refine (small_any _ _ _).mono ?_
  rintro e w1 ⟨rfl, rfl⟩
  rw [k2]
  go_wp2_with fail
  refine (ff.out _ _ _ Z2x3 Z2x3 Z2x3 Z2x3).mono ?_
  rintro e w1 ⟨rfl, hb1⟩
  obtain ⟨g1, g2, g3⟩ := bgrow hb1
  have hbw : Below w.heap.size w w1 := by refine Below.trans ?_ (hb1.mono Z2x1); exact Z2x0
  have z0 : w1.cell? ⟨w.heap.size + 1 + 1, 0, none⟩ = some (.int .i64 0) := by rw [g1 _ _ Z2x1]; simp [go_sem]
  have z1 : w1.cell? ⟨w.heap.size + 1 + 1, 1, none⟩ = some (.int .i64 0) := by rw [g1 _ _ Z2x1]; simp [go_sem]
  go_wp2
  exact bodyPost_ret (v := RB (x, y, b)) Z2x5 rfl ⟨rfl, Z2x0⟩
 ·go_enter Tryz.func101, Tryz.ntmps101
  go_wp2_with fail
  refine (right_any _ _ _).mono ?_
  rintro e w1 ⟨rfl, rfl⟩
  rw [e1]
  go_wp2_with fail
  refine (right_any _ _ _).mono ?_
  rintro e w1 ⟨rfl, rfl⟩
  rw [e2]
  go_wp2_with fail
  refine (small_any _ _ _).mono ?_
  rintro e w1 ⟨rfl, rfl⟩
  rw [k1]
  go_wp2_with fail
  refine (small_any _ _ _).mono ?_
  rintro e w1 ⟨rfl, rfl⟩
  rw [k2]
  go_wp2_with fail
  refine (ff.out _ _ _ Z2x3 Z2x3 Z2x3 Z2x3).mono ?_
  rintro e w1 ⟨rfl, hb1⟩
  obtain ⟨g1, g2, g3⟩ := bgrow hb1
  have hbw : Below w.heap.size w w1 := by refine Below.trans ?_ (hb1.mono Z2x1); exact Z2x0
  have z0 : w1.cell? ⟨w.heap.size + 1 + 1, 0, none⟩ = some (.int .i64 0) := by rw [g1 _ _ Z2x1]; simp [go_sem]
  have z1 : w1.cell? ⟨w.heap.size + 1 + 1, 1, none⟩ = some (.int .i64 0) := by rw [g1 _ _ Z2x1]; simp [go_sem]
  go_wp2
  exact bodyPost_ret (v := RB (x, y, b)) Z2x5 rfl ⟨rfl, Z2x0⟩
end Go.Proofs.YtbpjnkeilhfajaaGreat.Num
end

section
/- The contracts of num's functions, in the form in which a printed text meets a callee: Times and Over. -/
namespace Go.Proofs.YtbpjnkeilhfajaaGreat.Given
open Go.RowKit Go.Proofs.YtbpjnkeilhfajaaGreat.Num
def timesR (p q r s : Int) : Int × Int × Bool :=
 if 0 < q ∧ 0 < s then if smallB p q = true ∧ smallB r s = true then mk (p * r) (q * s) else timesL p q r s else (0, 0, false)
theorem times_any (p q r s : Int) (w : World) (hp : In64 p) (hq : In64 q) (hr : In64 r) (hs : In64 s) :
  Calls Tryz.prog 87 #[RV p q, RV r s] w fun e w' => e = .returned (RB (timesR p q r s)) ∧ Below w.heap.size w w' := by
 unfold timesR
 by_cases h0 : 0 < q ∧ 0 < s
 ·rw [if_pos h0]
  by_cases hk : smallB p q = true ∧ smallB r s = true
  ·rw [if_pos hk]; exact times_small p q r s w h0.1 h0.2 hk.1 hk.2
  ·rw [if_neg hk]; exact times_large p q r s w hp hq hr hs h0.1 h0.2 hk
 ·rw [if_neg h0]; exact times_wrong p q r s w h0
def overR (p q r s : Int) : Int × Int × Bool :=
 if 0 < q ∧ 0 < s then if r = 0 then (0, 0, false) else if smallB p q = true ∧ smallB r s = true ∧ 0 < r then mk (p * s) (q * r) else overL p q r s else (0, 0, false)
theorem over_all (p q r s : Int) (w : World) (hp : In64 p) (hq : In64 q) (hr : In64 r) (hs : In64 s) :
  Calls Tryz.prog 101 #[RV p q, RV r s] w fun e w' => e = .returned (RB (overR p q r s)) ∧ Below w.heap.size w w' := by
 unfold overR
 by_cases h0 : 0 < q ∧ 0 < s
 ·rw [if_pos h0]
  by_cases hr0 : r = 0
  ·rw [if_pos hr0, hr0]; exact over_nought p q s w h0.1 h0.2
  ·rw [if_neg hr0]
   by_cases hk : smallB p q = true ∧ smallB r s = true ∧ 0 < r
   ·rw [if_pos hk]; exact over_small p q r s w h0.1 h0.2 hk.2.2 hk.1 hk.2.1
   ·rw [if_neg hk]; exact over_large p q r s w hp hq hr hs h0.1 h0.2 hr0 hk
 ·rw [if_neg h0]; exact over_wrong p q r s w h0
def num_Rat_Times.f (a0_0 a0_1 a1_0 a1_1 : Int) : Option (Int × Int × Bool) := if In64 a0_0 ∧ In64 a0_1 ∧ In64 a1_0 ∧ In64 a1_1 then some (timesR a0_0 a0_1 a1_0 a1_1) else none
theorem num_Rat_Times.calls (a0_0 a0_1 a1_0 a1_1 : Int) (r1 r2 : Int) (r3 : Bool) (w : World) (h : num_Rat_Times.f a0_0 a0_1 a1_0 a1_1 = some (r1, r2, r3)) :
  Calls Tryz.prog 87 #[.agg #[.int .i64 a0_0, .int .i64 a0_1], .agg #[.int .i64 a1_0, .int .i64 a1_1]] w fun e w' => e = .returned (.tuple #[.agg #[.int .i64 r1, .int .i64 r2], .bool r3]) ∧ Below w.heap.size w w' := by
 unfold num_Rat_Times.f at h
 split at h
 ·rename_i hd
  have := times_any a0_0 a0_1 a1_0 a1_1 w hd.1 hd.2.1 hd.2.2.1 hd.2.2.2
  rw [Option.some.inj h] at this
  exact this
 ·cases h
def num_Rat_Over.f (a0_0 a0_1 a1_0 a1_1 : Int) : Option (Int × Int × Bool) := if In64 a0_0 ∧ In64 a0_1 ∧ In64 a1_0 ∧ In64 a1_1 then some (overR a0_0 a0_1 a1_0 a1_1) else none
theorem num_Rat_Over.calls (a0_0 a0_1 a1_0 a1_1 : Int) (r1 r2 : Int) (r3 : Bool) (w : World) (h : num_Rat_Over.f a0_0 a0_1 a1_0 a1_1 = some (r1, r2, r3)) :
  Calls Tryz.prog 101 #[.agg #[.int .i64 a0_0, .int .i64 a0_1], .agg #[.int .i64 a1_0, .int .i64 a1_1]] w fun e w' => e = .returned (.tuple #[.agg #[.int .i64 r1, .int .i64 r2], .bool r3]) ∧ Below w.heap.size w w' := by
 unfold num_Rat_Over.f at h
 split at h
 ·rename_i hd
  have := over_all a0_0 a0_1 a1_0 a1_1 w hd.1 hd.2.1 hd.2.2.1 hd.2.2.2
  rw [Option.some.inj h] at this
  exact this
 ·cases h
end Go.Proofs.YtbpjnkeilhfajaaGreat.Given
end

section
/- Plain law: what Plus and Minus answer for two rats in lowest terms is the right rat of the sum. -/
namespace Go.Proofs.YtbpjnkeilhfajaaGreat.Num
open Go.RowKit Go.Proofs.YtbpjnkeilhfajaaGreat.Given
set_option linter.unusedVariables false
set_option linter.unusedSimpArgs false
theorem co_of {a b : Int} (h : ∀ d : Int, d ∣ a → d ∣ b → d ∣ 1) : Int.gcd a b = 1 := by
 have := h _ (Int.gcd_dvd_left a b) (Int.gcd_dvd_right a b)
 have := Int.le_of_dvd (by decide) this
 by_cases z : Int.gcd a b = 0
 ·have e := Int.gcd_eq_zero_iff.1 z
  have := h 0 (by rw [e.1]; exact Int.dvd_refl 0) (by rw [e.2]; exact Int.dvd_refl 0)
  have := Int.le_of_dvd (by decide) (h 2 (by rw [e.1]; exact Int.dvd_zero 2) (by rw [e.2]; exact Int.dvd_zero 2))
  omega
 ·omega
theorem co_dvd {a b d : Int} (h : Int.gcd a b = 1) (h1 : d ∣ a) (h2 : d ∣ b) : d ∣ 1 := by
 have := Int.dvd_coe_gcd h1 h2
 rw [h] at this; exact this
theorem co_mul {a b c : Int} (h1 : Int.gcd a b = 1) (h2 : Int.gcd a c = 1) : Int.gcd a (b * c) = 1 := by
 refine co_of fun d da dbc => ?_
 have : Int.gcd d b = 1 := co_of fun e e1 e2 => co_dvd h1 (Int.dvd_trans e1 da) e2
 exact co_dvd h2 da (dvd_of_co this dbc)
theorem quo0_mul {T' G : Int} (hG : 0 < G) : quo0 (G * T') G = T' := by
 unfold quo0
 split
 ·rw [show -(G * T') = G * -T' by grind, Int.mul_ediv_cancel_left _ (by omega)]; omega
 ·rw [Int.mul_ediv_cancel_left _ (by omega)]
theorem gcd_mod (T : Int) (g : Nat) : Int.gcd (sz T % (g : Int)) g = Int.gcd T g := by
 rw [sz_abs, ← Int.natCast_emod]
 simp only [Int.gcd, Int.natAbs_natCast]
 rw [← Nat.gcd_rec, Nat.gcd_comm]
theorem sum_low {p q r s : Int} (t : Bool) (h1 : Low p q) (h2 : Low r s) :
  lowP (top p q r s t) (q * s) = quo0 (sumT p q r s t) (sumG p q r s t) ∧ lowQ (top p q r s t) (q * s) = q / (Int.gcd q s : Int) * (s / sumG p q r s t) := by
 obtain ⟨q0, c1⟩ := h1
 obtain ⟨s0, c2⟩ := h2
 have g0 : 0 < (Int.gcd q s : Int) := gcd_pos (p := q) (q := s) (by omega)
 have cqs : Int.gcd (q / (Int.gcd q s : Int)) (s / (Int.gcd q s : Int)) = 1 := Int.gcd_ediv_gcd_ediv_gcd_of_ne_zero_right (n := q) (by omega)
 obtain ⟨q', hq⟩ := Int.gcd_dvd_left q s
 obtain ⟨s', hs⟩ := Int.gcd_dvd_right q s
 have eT : sumT p q r s t = (if t = true then p * s' - r * q' else p * s' + r * q') := by
  unfold sumT
  rw [show q / (Int.gcd q s : Int) = q' by rw [Int.ediv_eq_of_eq_mul_right (by omega) hq], show s / (Int.gcd q s : Int) = s' by rw [Int.ediv_eq_of_eq_mul_right (by omega) hs]]
  split <;> omega
 have dq : q / (Int.gcd q s : Int) = q' := Int.ediv_eq_of_eq_mul_right (by omega) hq
 have ds : s / (Int.gcd q s : Int) = s' := Int.ediv_eq_of_eq_mul_right (by omega) hs
 rw [dq, ds] at cqs
 have eG : sumG p q r s t = (Int.gcd (sumT p q r s t) (Int.gcd q s) : Int) := by
  unfold sumG
  rw [gcd_mod]
 have etop : top p q r s t = (Int.gcd q s : Int) * sumT p q r s t := by
  rw [eT]; unfold top
  generalize (Int.gcd q s : Int) = g at *
  subst hq hs
  split <;> grind
 have cT : Int.gcd (sumT p q r s t / (Int.gcd (sumT p q r s t) (Int.gcd q s) : Int)) ((Int.gcd q s : Int) / (Int.gcd (sumT p q r s t) (Int.gcd q s) : Int)) = 1 := Int.gcd_ediv_gcd_ediv_gcd_of_ne_zero_right (n := sumT p q r s t) (by omega)
 have G0 : 0 < (Int.gcd (sumT p q r s t) (Int.gcd q s) : Int) := gcd_pos (by omega)
 rw [eG, etop]
 obtain ⟨T', hT⟩ := Int.gcd_dvd_left (sumT p q r s t) (Int.gcd q s)
 obtain ⟨g', hg⟩ := Int.gcd_dvd_right (sumT p q r s t) (Int.gcd q s)
 rw [show sumT p q r s t / (Int.gcd (sumT p q r s t) (Int.gcd q s) : Int) = T' from Int.ediv_eq_of_eq_mul_right (by omega) hT, show (Int.gcd q s : Int) / (Int.gcd (sumT p q r s t) (Int.gcd q s) : Int) = g' from Int.ediv_eq_of_eq_mul_right (by omega) hg] at cT
 rw [dq]
 clear dq ds etop eG
 generalize sumT p q r s t = T at *
 generalize hgg : (Int.gcd q s : Int) = g at *
 generalize (Int.gcd T g : Int) = G at *
 have cTq : Int.gcd T' q' = 1 := by
  refine co_of fun d a b => ?_
  have dT : d ∣ T := by rw [hT]; exact Int.dvd_mul_of_dvd_right a
  have ds' : Int.gcd d s' = 1 := co_of fun e e1 e2 => co_dvd cqs (Int.dvd_trans e1 b) e2
  have dps : d ∣ s' * p := by
   rw [eT] at dT
   have x : d ∣ r * q' := Int.dvd_mul_of_dvd_right b
   split at dT
   ·have := Int.dvd_add dT x
    rwa [show p * s' - r * q' + r * q' = s' * p by grind] at this
   ·have := Int.dvd_sub dT x
    rwa [show p * s' + r * q' - r * q' = s' * p by grind] at this
  exact co_dvd c1 (dvd_of_co ds' dps) (by rw [hq]; exact Int.dvd_mul_of_dvd_right b)
 have cTs : Int.gcd T' s' = 1 := by
  refine co_of fun d a b => ?_
  have dT : d ∣ T := by rw [hT]; exact Int.dvd_mul_of_dvd_right a
  have ds' : Int.gcd d q' = 1 := co_of fun e e1 e2 => co_dvd cqs e2 (Int.dvd_trans e1 b)
  have dps : d ∣ q' * r := by
   rw [eT] at dT
   have x : d ∣ p * s' := Int.dvd_mul_of_dvd_right b
   split at dT
   ·have := Int.dvd_sub x dT
    rwa [show p * s' - (p * s' - r * q') = q' * r by grind] at this
   ·have := Int.dvd_sub dT x
    rwa [show p * s' + r * q' - p * s' = q' * r by grind] at this
  exact co_dvd c2 (dvd_of_co ds' dps) (by rw [hs]; exact Int.dvd_mul_of_dvd_right b)
 have qp : 0 < q' := by
  rw [hq] at q0
  exact Int.pos_of_mul_pos_right q0 (by omega)
 have sp : 0 < s' := by
  rw [hs] at s0
  exact Int.pos_of_mul_pos_right s0 (by omega)
 have gp : 0 < g' := by
  rw [hg] at g0
  exact Int.pos_of_mul_pos_right g0 (by omega)
 have es : s / G = g' * s' := by
  rw [hs, hg, Int.mul_assoc, Int.mul_ediv_cancel_left _ (by omega)]
 have eQ : quo0 T G = T' := by rw [hT]; exact quo0_mul G0
 rw [es, eQ]
 refine low_eq ?_ ⟨?_, co_mul cTq (co_mul cT cTs)⟩ ?_
 ·have := Int.mul_pos q0 s0; omega
 ·exact Int.mul_pos qp (Int.mul_pos gp sp)
 ·rw [hT, hs, hg, hq, hg]; grind
theorem sumR_mk {p q r s : Int} (t : Bool) (h1 : Low p q) (h2 : Low r s) : sumR p q r s t = mk (top p q r s t) (q * s) := by
 unfold sumR
 rw [if_pos ⟨h1.pos, h2.pos⟩]
 split
 ·rfl
 ·have hl := sum_low t h1 h2
  have hm := Int.mul_pos h1.pos h2.pos
  unfold sumL both mk
  rw [if_neg (show ¬ q * s = 0 by omega), hl.1, hl.2]
end Go.Proofs.YtbpjnkeilhfajaaGreat.Num
end

section
/- Plain law: what Times answers for two rats in lowest terms is the right rat of the product. -/
namespace Go.Proofs.YtbpjnkeilhfajaaGreat.Num
open Go.RowKit Go.Proofs.YtbpjnkeilhfajaaGreat.Given
set_option linter.unusedVariables false
set_option linter.unusedSimpArgs false
theorem sz_ediv {a g : Int} (hg : 0 < g) (hd : g ∣ a) : sz a / g = sz (a / g) := by
 obtain ⟨c, rfl⟩ := hd
 rw [Int.mul_ediv_cancel_left _ (by omega), sz_abs, sz_abs, Int.natAbs_mul]
 have : ((g.natAbs * c.natAbs : Nat) : Int) = g * (c.natAbs : Int) := by
  rw [Int.natCast_mul]; congr 1; omega
 rw [this, Int.mul_ediv_cancel_left _ (by omega)]
theorem sg_mul (a b : Int) : (if sg a b = true then -(sz a * sz b) else sz a * sz b) = a * b := by
 unfold sg sz
 by_cases h1 : a < 0 <;> by_cases h2 : b < 0 <;> simp [h1, h2] <;> grind
theorem times_low {p q r s : Int} (h1 : Low p q) (h2 : Low r s) :
  lowP (p * r) (q * s) = timesX p q r s ∧ lowQ (p * r) (q * s) = q / (Int.gcd r q : Int) * (s / (Int.gcd p s : Int)) := by
 obtain ⟨q0, c1⟩ := h1
 obtain ⟨s0, c2⟩ := h2
 have g0 : 0 < (Int.gcd p s : Int) := gcd_pos (p := p) (q := s) (by omega)
 have k0 : 0 < (Int.gcd r q : Int) := gcd_pos (p := r) (q := q) (by omega)
 obtain ⟨p', hp⟩ := Int.gcd_dvd_left p s
 obtain ⟨s', hs⟩ := Int.gcd_dvd_right p s
 obtain ⟨r', hr⟩ := Int.gcd_dvd_left r q
 obtain ⟨q', hq⟩ := Int.gcd_dvd_right r q
 have dp : p / (Int.gcd p s : Int) = p' := Int.ediv_eq_of_eq_mul_right (by omega) hp
 have ds : s / (Int.gcd p s : Int) = s' := Int.ediv_eq_of_eq_mul_right (by omega) hs
 have dr : r / (Int.gcd r q : Int) = r' := Int.ediv_eq_of_eq_mul_right (by omega) hr
 have dq : q / (Int.gcd r q : Int) = q' := Int.ediv_eq_of_eq_mul_right (by omega) hq
 have cps : Int.gcd p' s' = 1 := by
  have := Int.gcd_ediv_gcd_ediv_gcd_of_ne_zero_right (n := p) (m := s) (by omega)
  rwa [dp, ds] at this
 have crq : Int.gcd r' q' = 1 := by
  have := Int.gcd_ediv_gcd_ediv_gcd_of_ne_zero_right (n := r) (m := q) (by omega)
  rwa [dr, dq] at this
 have eX : timesX p q r s = p' * r' := by
  unfold timesX
  rw [sz_ediv g0 (Int.gcd_dvd_left p s), sz_ediv k0 (Int.gcd_dvd_left r q), dp, dr]
  have : sg p r = sg p' r' ∨ sz p' * sz r' = 0 := by
   have a : p < 0 ↔ p' < 0 := by
    constructor
    ·intro h
     by_cases z : p' < 0
     ·exact z
     ·have := Int.mul_nonneg (Int.le_of_lt g0) (show 0 ≤ p' by omega); omega
    ·intro h
     have := Int.mul_neg_of_pos_of_neg g0 h; omega
   have b : r < 0 ↔ r' < 0 := by
    constructor
    ·intro h
     by_cases z : r' < 0
     ·exact z
     ·have := Int.mul_nonneg (Int.le_of_lt k0) (show 0 ≤ r' by omega); omega
    ·intro h
     have := Int.mul_neg_of_pos_of_neg k0 h; omega
   left; unfold sg; simp only [a, b]
  rcases this with e | e
  ·rw [e]; exact sg_mul p' r'
  ·have := sg_mul p' r'
   rw [e] at this ⊢
   split <;> (split at this <;> omega)
 rw [eX, dq, ds]
 have sub : ∀ {a b c d : Int}, Int.gcd a b = 1 → c ∣ a → d ∣ b → Int.gcd c d = 1 := fun h hc hd => co_of fun e e1 e2 => co_dvd h (Int.dvd_trans e1 hc) (Int.dvd_trans e2 hd)
 have pd : p' ∣ p := ⟨_, by rw [Int.mul_comm]; exact hp⟩
 have qd : q' ∣ q := ⟨_, by rw [Int.mul_comm]; exact hq⟩
 have rd : r' ∣ r := ⟨_, by rw [Int.mul_comm]; exact hr⟩
 have sd : s' ∣ s := ⟨_, by rw [Int.mul_comm]; exact hs⟩
 have x1 : Int.gcd q' (p' * r') = 1 := co_mul (by rw [Int.gcd_comm]; exact sub c1 pd qd) (by rw [Int.gcd_comm]; exact crq)
 have x2 : Int.gcd s' (p' * r') = 1 := co_mul (by rw [Int.gcd_comm]; exact cps) (by rw [Int.gcd_comm]; exact sub c2 rd sd)
 have qp : 0 < q' := by
  rw [hq] at q0
  exact Int.pos_of_mul_pos_right q0 (by omega)
 have sp : 0 < s' := by
  rw [hs] at s0
  exact Int.pos_of_mul_pos_right s0 (by omega)
 generalize (Int.gcd p s : Int) = g at *
 generalize (Int.gcd r q : Int) = k at *
 refine low_eq ?_ ⟨Int.mul_pos qp sp, co_mul (by rw [Int.gcd_comm]; exact x1) (by rw [Int.gcd_comm]; exact x2)⟩ ?_
 ·have := Int.mul_pos q0 s0; omega
 ·have e1 : p * s' = p' * s := by rw [hp, hs]; grind
  have e2 : r * q' = r' * q := by rw [hr, hq]; grind
  have : p * r * (q' * s') = (p * s') * (r * q') := by grind
  rw [this, e1, e2]; grind
theorem timesR_mk {p q r s : Int} (h1 : Low p q) (h2 : Low r s) : timesR p q r s = mk (p * r) (q * s) := by
 unfold timesR
 rw [if_pos ⟨h1.pos, h2.pos⟩]
 split
 ·rfl
 ·have hl := times_low h1 h2
  have hm := Int.mul_pos h1.pos h2.pos
  unfold timesL both mk
  rw [if_neg (show ¬ q * s = 0 by omega), hl.1, hl.2]
end Go.Proofs.YtbpjnkeilhfajaaGreat.Num
end

section
/- Plain law of NumThree: sums and products of three rats are the same whichever pair comes first. -/
namespace Go.Proofs.YtbpjnkeilhfajaaGreat.Num
open Go.RowKit Go.Proofs.YtbpjnkeilhfajaaGreat.Given
set_option linter.unusedVariables false
set_option linter.unusedSimpArgs false
theorem mk_frac {x y x' y' : Int} (hy : y ≠ 0) (hy' : y' ≠ 0) (e : x * y' = x' * y) : mk x y = mk x' y' := by
 have hv := low_val (p := x) hy
 have := low_eq (p := x') (q := y') hy' (low_low (p := x) hy) (by
  have : lowP x y * y' * y = x' * lowQ x y * y := by
   rw [show lowP x y * y' * y = lowP x y * y * y' by grind, hv, show x * lowQ x y * y' = x * y' * lowQ x y by grind, e]; grind
  exact Int.eq_of_mul_eq_mul_right hy this)
 unfold mk
 rw [if_neg hy, if_neg hy', this.1, this.2]
theorem mk_true {p q a b : Int} (h : mk p q = (a, b, true)) : Low a b ∧ a * q = p * b := by
 rcases mk_cases p q with ⟨h', -⟩ | ⟨P, Q, h', -, -, -, -, -, l, e⟩
 ·rw [h] at h'; cases h'
 ·rw [h] at h'
  have e1 := congrArg Prod.fst h'
  have e2 := congrArg (fun z => z.2.1) h'
  simp only at e1 e2
  subst e1 e2
  exact ⟨l, e⟩
end Go.Proofs.YtbpjnkeilhfajaaGreat.Num
end

section
/- Plain law: what Over answers for two rats in lowest terms, and the plain law of NumFields. -/
namespace Go.Proofs.YtbpjnkeilhfajaaGreat.Num
open Go.RowKit Go.Proofs.YtbpjnkeilhfajaaGreat.Given
set_option linter.unusedVariables false
set_option linter.unusedSimpArgs false
def inN (r s : Int) : Int := if r < 0 then -s else s
theorem low_inv {r s : Int} (h : Low r s) (hr : r ≠ 0) : Low (inN r s) (sz r) := by
 have s0 := h.pos
 have c := h.co
 constructor
 ·unfold sz; split <;> omega
 ·unfold inN sz
  split
  ·rw [Int.neg_gcd, Int.gcd_neg, Int.gcd_comm]; exact c
  ·rw [Int.gcd_comm]; exact c
theorem over_times {p q r s : Int} (h : Low r s) (hr : r ≠ 0) : overL p q r s = timesL p q (inN r s) (sz r) := by
 have s0 := h.pos
 have e1 : Int.gcd p (sz r) = Int.gcd p r := by
  unfold sz; split
  ·rw [Int.gcd_neg]
  ·rfl
 have e2 : Int.gcd (inN r s) q = Int.gcd s q := by
  unfold inN; split
  ·rw [Int.neg_gcd]
  ·rfl
 have e3 : sz (inN r s) = s := by
  unfold sz inN; split <;> (split <;> omega)
 have e4 : sg p (inN r s) = sg p r := by
  have : decide (inN r s < 0) = decide (r < 0) := by
   unfold inN; split
   ·rename_i h; rw [decide_eq_true h, decide_eq_true (by omega)]
   ·rename_i h; rw [decide_eq_false h, decide_eq_false (by omega)]
  unfold sg; rw [this]
 unfold overL timesL overX timesX
 rw [e1, e2, e3, e4]
theorem overR_mk {p q r s : Int} (h1 : Low p q) (h2 : Low r s) : overR p q r s = mk (p * s) (q * r) := by
 unfold overR
 rw [if_pos ⟨h1.pos, h2.pos⟩]
 by_cases hr : r = 0
 ·rw [if_pos hr, hr]; unfold mk; rw [if_pos (by rw [Int.mul_zero])]
 ·rw [if_neg hr]
  split
  ·rfl
  ·have l := low_inv h2 hr
   have hl := times_low h1 l
   have hm := Int.mul_pos h1.pos l.pos
   have e : timesL p q (inN r s) (sz r) = mk (p * inN r s) (q * sz r) := by
    unfold timesL both mk
    rw [if_neg (show ¬ q * sz r = 0 by omega), hl.1, hl.2]
   rw [over_times h2 hr, e]
   have q0 := h1.pos
   refine mk_frac (by omega) (fun z => ?_) ?_
   ·rcases Int.mul_eq_zero.1 z with z | z <;> omega
   ·unfold inN sz; split <;> grind
theorem mk_low {P Q : Int} (h : Low P Q) (hP : In64 P) (hQ : In64 Q) : mk P Q = (P, Q, true) := by
 have q0 := h.pos
 have := low_eq (p := P) (q := Q) (by omega) h rfl
 unfold mk
 rw [if_neg (by omega), this.1, this.2, if_pos ⟨hP, hQ⟩]
end Go.Proofs.YtbpjnkeilhfajaaGreat.Num
end

section
/- Plain: what num reckons, as rational numbers. -/
namespace Go.Proofs.YtbpjnkeilhfajaaGreat.Lin
open Go.RowKit Go.Proofs.YtbpjnkeilhfajaaGreat.Given Go.Proofs.YtbpjnkeilhfajaaGreat.Num
set_option linter.unusedVariables false
set_option linter.unusedSimpArgs false
def Fit (x : Rat) : Prop := In64 x.num ∧ (x.den : Int) < 9223372036854775808
instance (x : Rat) : Decidable (Fit x) := by unfold Fit In64; infer_instance
def mkQ (x : Rat) : Int × Int × Bool := if Fit x then (x.num, (x.den : Int), true) else (0, 0, false)
theorem den_pos (x : Rat) : (0 : Int) < (x.den : Int) := by have := x.den_pos; omega
theorem low_q (x : Rat) : Low x.num (x.den : Int) := ⟨den_pos x, by have := x.reduced; unfold Int.gcd; rw [Int.natAbs_natCast]; exact this⟩
theorem num_eq (x : Rat) : x * ((x.den : Int) : Rat) = ((x.num : Int) : Rat) := by
 have hd : ((x.den : Int) : Rat) ≠ 0 := by
  intro e
  have := Rat.intCast_inj.1 (e.trans (show (0 : Rat) = ((0 : Int) : Rat) from rfl))
  have := den_pos x; omega
 have hx : x = ((x.num : Int) : Rat) / ((x.den : Int) : Rat) := by
  rw [← Rat.divInt_eq_div]; exact (Rat.num_divInt_den x).symm
 generalize ((x.den : Int) : Rat) = d at *
 generalize ((x.num : Int) : Rat) = n at *
 rw [hx]; grind
theorem cast_ne {q : Int} (h : q ≠ 0) : (q : Rat) ≠ 0 := fun e => h (Rat.intCast_inj.1 (e.trans (show (0 : Rat) = ((0 : Int) : Rat) from rfl)))
theorem low_is {p q : Int} (hq : q ≠ 0) {x : Rat} (hx : x * (q : Rat) = (p : Rat)) : lowP p q = x.num ∧ lowQ p q = (x.den : Int) := by
 refine low_eq hq (low_q x) ?_
 apply Rat.intCast_inj.1
 rw [Rat.intCast_mul, Rat.intCast_mul, ← num_eq x, ← hx]
 grind
theorem mk_q {p q : Int} (hq : q ≠ 0) {x : Rat} (hx : x * (q : Rat) = (p : Rat)) : mk p q = mkQ x := by
 obtain ⟨e1, e2⟩ := low_is hq hx
 unfold mk mkQ
 rw [if_neg hq, e1, e2]
 have hd := den_pos x
 by_cases hf : Fit x
 ·rw [if_pos hf, if_pos ⟨hf.1, by unfold In64; have := hf.2; omega⟩]
 ·rw [if_neg hf, if_neg (fun h => hf ⟨h.1, h.2.2⟩)]
theorem right_q {P Q : Int} (h : Low P Q) : ∃ x : Rat, x.num = P ∧ (x.den : Int) = Q := by
 have hq : Q ≠ 0 := by have := h.pos; omega
 have hr := cast_ne hq
 refine ⟨(P : Rat) / (Q : Rat), ?_⟩
 have hx : ((P : Rat) / (Q : Rat)) * (Q : Rat) = (P : Rat) := by grind
 obtain ⟨e1, e2⟩ := low_is hq hx
 obtain ⟨f1, f2⟩ := low_eq hq h rfl
 exact ⟨e1.symm.trans f1, e2.symm.trans f2⟩
theorem ne_den (x : Rat) : (x.den : Int) ≠ 0 := by have := den_pos x; omega
theorem mul_ne {a b : Int} (ha : a ≠ 0) (hb : b ≠ 0) : a * b ≠ 0 := Int.mul_ne_zero ha hb
theorem plus_q (x y : Rat) : sumR x.num x.den y.num y.den false = mkQ (x + y) := by
 rw [sumR_mk false (low_q x) (low_q y)]
 refine mk_q (mul_ne (ne_den x) (ne_den y)) ?_
 unfold top
 rw [if_neg (by decide), Rat.intCast_add, Rat.intCast_mul, Rat.intCast_mul, Rat.intCast_mul, ← num_eq x, ← num_eq y]
 grind
theorem minus_q (x y : Rat) : sumR x.num x.den y.num y.den true = mkQ (x - y) := by
 rw [sumR_mk true (low_q x) (low_q y)]
 refine mk_q (mul_ne (ne_den x) (ne_den y)) ?_
 unfold top
 rw [if_pos rfl, Rat.intCast_sub, Rat.intCast_mul, Rat.intCast_mul, Rat.intCast_mul, ← num_eq x, ← num_eq y]
 grind
theorem times_q (x y : Rat) : timesR x.num x.den y.num y.den = mkQ (x * y) := by
 rw [timesR_mk (low_q x) (low_q y)]
 refine mk_q (mul_ne (ne_den x) (ne_den y)) ?_
 rw [Rat.intCast_mul, Rat.intCast_mul, ← num_eq x, ← num_eq y]
 grind
theorem num_ne {y : Rat} (hy : y ≠ 0) : y.num ≠ 0 := fun e => hy (Rat.num_eq_zero.1 e)
theorem over_q (x y : Rat) (hy : y ≠ 0) : overR x.num x.den y.num y.den = mkQ (x / y) := by
 rw [overR_mk (low_q x) (low_q y)]
 refine mk_q (mul_ne (ne_den x) (num_ne hy)) ?_
 rw [Rat.intCast_mul, Rat.intCast_mul, ← num_eq x, ← num_eq y]
 grind
theorem cmp_q (x y : Rat) : cmpI (x.num * y.den - y.num * x.den) = if x < y then -1 else if x = y then 0 else 1 := by
 have hx := den_pos x
 have hy := den_pos y
 have e : ((x.num * y.den - y.num * x.den : Int) : Rat) = (x - y) * ((x.den : Int) : Rat) * ((y.den : Int) : Rat) := by
  rw [Rat.intCast_sub, Rat.intCast_mul, Rat.intCast_mul, ← num_eq x, ← num_eq y]; grind
 have dx : (0 : Rat) < ((x.den : Int) : Rat) := by have := Rat.intCast_lt_intCast.2 hx; exact this
 have dy : (0 : Rat) < ((y.den : Int) : Rat) := by have := Rat.intCast_lt_intCast.2 hy; exact this
 have dd := Rat.mul_pos dx dy
 generalize x.num * y.den - y.num * x.den = z at *
 unfold cmpI
 by_cases h : x < y
 ·have hz : (z : Rat) < ((0 : Int) : Rat) := by
   have := Rat.mul_pos (a := y - x) (b := ((x.den : Int) : Rat) * ((y.den : Int) : Rat)) (by grind) dd
   rw [e]; show _ < (0 : Rat); grind
  rw [if_pos h, if_pos (Rat.intCast_lt_intCast.1 hz)]
 ·rw [if_neg h]
  by_cases h2 : x = y
  ·have hz : z = 0 := by
    apply Rat.intCast_inj.1
    rw [e, h2]; show _ = (0 : Rat); grind
   rw [if_pos h2, hz]; rfl
  ·have hz : ((0 : Int) : Rat) < (z : Rat) := by
    have := Rat.mul_pos (a := x - y) (b := ((x.den : Int) : Rat) * ((y.den : Int) : Rat)) (by grind) dd
    rw [e]; show (0 : Rat) < _; grind
   have hz' := Rat.intCast_lt_intCast.1 hz
   rw [if_neg h2, if_neg (by omega), if_neg (by omega)]
end Go.Proofs.YtbpjnkeilhfajaaGreat.Lin
end
