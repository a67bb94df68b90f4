/- Contracts of num: Times, Over. -/
import Derived.Test.YtdkbnbebioflaaaNumV
namespace Go.Proofs
theorem Z2t0 {p : Prop} (h : p := by repeat (first | exact Below.refl _ _ | with_reducible assumption | refine Below.alloc ?_ (by first | exact Nat.le_refl _ | (simp; done) | (simp; omega) | omega) _ | refine Below.setCell ?_ (by first | exact Nat.le_refl _ | (simp; done) | (simp; omega) | omega) _ | refine Below.drew ?_ | refine bdrewN ?_ _)) : p := h
theorem Z2t1 {p : Prop} (h : p := by first | exact Nat.le_refl _ | (simp; done) | (simp; omega) | omega) : p := h
theorem Z2t2 {p : Prop} (h : p := by simp [results, Try.results46, go_sem, z0, z1]) : p := h
theorem Z2t3 {p : Prop} (h : p := by simp [go_sem]) : p := h
theorem Z2t4 {p : Prop} (h : p := by simp [results, Try.results60, go_sem, z0, z1]) : p := h
end Go.Proofs
namespace Go.Proofs.Ytdkbnbebioflaaa.Num
open Go.RowKit
set_option linter.unusedVariables false
set_option linter.unusedSimpArgs false

theorem times_wrong (p q r s : Int) (w : World) (h : ¬ (0 < q ∧ 0 < s)) :
    Calls Try.prog 46 #[RV p q, RV r s] w fun e w' => e = .returned (RB (0, 0, false)) ∧ Below w.heap.size w w' := by
  by_cases hq : 0 < q
  · have hs : ¬ 0 < s := fun k => h ⟨hq, k⟩
    have e1 : decide (0 < q) = true := decide_eq_true hq
    have e2 : decide (0 < s) = false := decide_eq_false hs
    clear h hq hs
    go_enter Try.func46, Try.ntmps46
    go_wp2_with fail
    refine (right_any _ _ _).mono ?_
    rintro e w1 ⟨rfl, rfl⟩
    rw [e1]
    go_wp2_with fail
    refine (right_any _ _ _).mono ?_
    rintro e w1 ⟨rfl, rfl⟩
    rw [e2]
    go_wp2
    exact bodyPost_ret (v := RB (0, 0, false)) (by simp [results, Try.results46, go_sem]) rfl ⟨rfl, Z2t0⟩
  · have e1 : decide (0 < q) = false := decide_eq_false hq
    clear h hq
    go_enter Try.func46, Try.ntmps46
    go_wp2_with fail
    refine (right_any _ _ _).mono ?_
    rintro e w1 ⟨rfl, rfl⟩
    rw [e1]
    go_wp2
    exact bodyPost_ret (v := RB (0, 0, false)) (by simp [results, Try.results46, go_sem]) rfl ⟨rfl, Z2t0⟩

theorem times_small (p q r s : Int) (w : World) (hq : 0 < q) (hs : 0 < s) (k1 : smallB p q = true) (k2 : smallB r s = true) :
    Calls Try.prog 46 #[RV p q, RV r s] w fun e w' => e = .returned (RB (mk (p * r) (q * s))) ∧ Below w.heap.size w w' := by
  have c1 := of_decide_eq_true k1
  have c2 := of_decide_eq_true k2
  have m1 := small_mul (a := p) (b := r) (by omega) (by omega) (by omega) (by omega)
  have m3 := small_mul (a := q) (b := s) (by omega) (by omega) (by omega) (by omega)
  have m4 := Int.mul_pos (a := q) (b := s) (by omega) (by omega)
  have e1 : decide (0 < q) = true := decide_eq_true hq
  have e2 : decide (0 < s) = true := decide_eq_true hs
  have w1 : wrap64 (p * r) = p * r := by unfold wrap64; omega
  have w3 : wrap64 (q * s) = q * s := by unfold wrap64; omega
  have hD : In64 (q * s) := ⟨by omega, by omega⟩
  have hN : In64 (p * r) := ⟨by omega, by omega⟩
  have low := Lib.hid (fun W0 => lowest_any (p * r) (q * s) W0 hN hD m4)
  rw [mk_small hN hD m4]
  clear c1 c2 m1 m3 m4 hq hs hD hN
  go_enter Try.func46, Try.ntmps46
  go_wp2_with fail
  refine (right_any _ _ _).mono ?_
  rintro e w1 ⟨rfl, rfl⟩
  rw [e1]
  go_wp2_with fail
  refine (right_any _ _ _).mono ?_
  rintro e w1 ⟨rfl, rfl⟩
  rw [e2]
  go_wp2_with fail
  refine (small_any _ _ _).mono ?_
  rintro e w1 ⟨rfl, rfl⟩
  rw [k1]
  go_wp2_with fail
  refine (small_any _ _ _).mono ?_
  rintro e w1 ⟨rfl, rfl⟩
  rw [k2]
  go_wp2_with fail
  refine (low.out _).mono ?_
  rintro e w1 ⟨rfl, hb1⟩
  obtain ⟨g1, g2, g3⟩ := bgrow hb1
  have hbw : Below w.heap.size w w1 := by refine Below.trans ?_ (hb1.mono Z2t1); exact Z2t0
  have z0 : w1.cell? ⟨w.heap.size + 1 + 1, 0, none⟩ = some (.int .i64 0) := by rw [g1 _ _ Z2t1]; simp [go_sem]
  have z1 : w1.cell? ⟨w.heap.size + 1 + 1, 1, none⟩ = some (.int .i64 0) := by rw [g1 _ _ Z2t1]; simp [go_sem]
  go_wp2
  exact bodyPost_ret (v := RB (lowP (p * r) (q * s), lowQ (p * r) (q * s), true)) Z2t2 rfl ⟨rfl, Z2t0⟩

theorem times_large (p q r s : Int) (w : World) (hp : In64 p) (hq : In64 q) (hr : In64 r) (hs : In64 s) (q0 : 0 < q) (s0 : 0 < s) (hk : ¬ (smallB p q = true ∧ smallB r s = true)) :
    Calls Try.prog 46 #[RV p q, RV r s] w fun e w' => e = .returned (RB (timesL p q r s)) ∧ Below w.heap.size w w' := by
  have hmf := run_makeFunc
  have ff := Lib.hid (fun (W0 : World) (ba bb : Nat) => times1_fits p q r s W0 ba bb hp hq hr hs q0 s0)
  have e1 : decide (0 < q) = true := decide_eq_true q0
  have e2 : decide (0 < s) = true := decide_eq_true s0
  clear hp hq hr hs q0 s0
  generalize timesL p q r s = z at *
  obtain ⟨x, y, b⟩ := z
  rcases smallB_cases p q r s hk with k1 | ⟨k1, k2⟩
  all_goals clear hk
  · go_enter Try.func46, Try.ntmps46
    go_wp2_with fail
    refine (right_any _ _ _).mono ?_
    rintro e w1 ⟨rfl, rfl⟩
    rw [e1]
    go_wp2_with fail
    refine (right_any _ _ _).mono ?_
    rintro e w1 ⟨rfl, rfl⟩
    rw [e2]
    go_wp2_with fail
    refine (small_any _ _ _).mono ?_
    rintro e w1 ⟨rfl, rfl⟩
    rw [k1]
    go_wp2_with fail
    refine (ff.out _ _ _ Z2t3 Z2t3 Z2t3 Z2t3).mono ?_
    rintro e w1 ⟨rfl, hb1⟩
    obtain ⟨g1, g2, g3⟩ := bgrow hb1
    have hbw : Below w.heap.size w w1 := by refine Below.trans ?_ (hb1.mono Z2t1); exact Z2t0
    have z0 : w1.cell? ⟨w.heap.size + 1 + 1, 0, none⟩ = some (.int .i64 0) := by rw [g1 _ _ Z2t1]; simp [go_sem]
    have z1 : w1.cell? ⟨w.heap.size + 1 + 1, 1, none⟩ = some (.int .i64 0) := by rw [g1 _ _ Z2t1]; simp [go_sem]
    go_wp2
    exact bodyPost_ret (v := RB (x, y, b)) Z2t2 rfl ⟨rfl, Z2t0⟩
  · go_enter Try.func46, Try.ntmps46
    go_wp2_with fail
    refine (right_any _ _ _).mono ?_
    rintro e w1 ⟨rfl, rfl⟩
    rw [e1]
    go_wp2_with fail
    refine (right_any _ _ _).mono ?_
    rintro e w1 ⟨rfl, rfl⟩
    rw [e2]
    go_wp2_with fail
    refine (small_any _ _ _).mono ?_
    rintro e w1 ⟨rfl, rfl⟩
    rw [k1]
    go_wp2_with fail
    refine (small_any _ _ _).mono ?_
    rintro e w1 ⟨rfl, rfl⟩
    rw [k2]
    go_wp2_with fail
    refine (ff.out _ _ _ Z2t3 Z2t3 Z2t3 Z2t3).mono ?_
    rintro e w1 ⟨rfl, hb1⟩
    obtain ⟨g1, g2, g3⟩ := bgrow hb1
    have hbw : Below w.heap.size w w1 := by refine Below.trans ?_ (hb1.mono Z2t1); exact Z2t0
    have z0 : w1.cell? ⟨w.heap.size + 1 + 1, 0, none⟩ = some (.int .i64 0) := by rw [g1 _ _ Z2t1]; simp [go_sem]
    have z1 : w1.cell? ⟨w.heap.size + 1 + 1, 1, none⟩ = some (.int .i64 0) := by rw [g1 _ _ Z2t1]; simp [go_sem]
    go_wp2
    exact bodyPost_ret (v := RB (x, y, b)) Z2t2 rfl ⟨rfl, Z2t0⟩

theorem over_wrong (p q r s : Int) (w : World) (h : ¬ (0 < q ∧ 0 < s)) :
    Calls Try.prog 60 #[RV p q, RV r s] w fun e w' => e = .returned (RB (0, 0, false)) ∧ Below w.heap.size w w' := by
  by_cases hq : 0 < q
  · have hs : ¬ 0 < s := fun k => h ⟨hq, k⟩
    have e1 : decide (0 < q) = true := decide_eq_true hq
    have e2 : decide (0 < s) = false := decide_eq_false hs
    clear h hq hs
    go_enter Try.func60, Try.ntmps60
    go_wp2_with fail
    refine (right_any _ _ _).mono ?_
    rintro e w1 ⟨rfl, rfl⟩
    rw [e1]
    go_wp2_with fail
    refine (right_any _ _ _).mono ?_
    rintro e w1 ⟨rfl, rfl⟩
    rw [e2]
    go_wp2
    exact bodyPost_ret (v := RB (0, 0, false)) (by simp [results, Try.results60, go_sem]) rfl ⟨rfl, Z2t0⟩
  · have e1 : decide (0 < q) = false := decide_eq_false hq
    clear h hq
    go_enter Try.func60, Try.ntmps60
    go_wp2_with fail
    refine (right_any _ _ _).mono ?_
    rintro e w1 ⟨rfl, rfl⟩
    rw [e1]
    go_wp2
    exact bodyPost_ret (v := RB (0, 0, false)) (by simp [results, Try.results60, go_sem]) rfl ⟨rfl, Z2t0⟩

theorem over_nought (p q s : Int) (w : World) (q0 : 0 < q) (s0 : 0 < s) :
    Calls Try.prog 60 #[RV p q, RV 0 s] w fun e w' => e = .returned (RB (0, 0, false)) ∧ Below w.heap.size w w' := by
  have e1 : decide (0 < q) = true := decide_eq_true q0
  have e2 : decide (0 < s) = true := decide_eq_true s0
  clear q0 s0
  go_enter Try.func60, Try.ntmps60
  go_wp2_with fail
  refine (right_any _ _ _).mono ?_
  rintro e w1 ⟨rfl, rfl⟩
  rw [e1]
  go_wp2_with fail
  refine (right_any _ _ _).mono ?_
  rintro e w1 ⟨rfl, rfl⟩
  rw [e2]
  go_wp2
  exact bodyPost_ret (v := RB (0, 0, false)) (by simp [results, Try.results60, go_sem]) rfl ⟨rfl, Z2t0⟩

theorem over_small (p q r s : Int) (w : World) (hq : 0 < q) (hs : 0 < s) (r0 : 0 < r) (k1 : smallB p q = true) (k2 : smallB r s = true) :
    Calls Try.prog 60 #[RV p q, RV r s] w fun e w' => e = .returned (RB (mk (p * s) (q * r))) ∧ Below w.heap.size w w' := by
  have c1 := of_decide_eq_true k1
  have c2 := of_decide_eq_true k2
  have m1 := small_mul (a := p) (b := s) (by omega) (by omega) (by omega) (by omega)
  have m3 := small_mul (a := q) (b := r) (by omega) (by omega) (by omega) (by omega)
  have m4 := Int.mul_pos (a := q) (b := r) (by omega) (by omega)
  have e1 : decide (0 < q) = true := decide_eq_true hq
  have e2 : decide (0 < s) = true := decide_eq_true hs
  have e3 : decide (0 < r) = true := decide_eq_true r0
  have e4 : (r == 0) = false := beq_eq_false_iff_ne.2 (by omega)
  have w1 : wrap64 (p * s) = p * s := by unfold wrap64; omega
  have w3 : wrap64 (q * r) = q * r := by unfold wrap64; omega
  have hD : In64 (q * r) := ⟨by omega, by omega⟩
  have hN : In64 (p * s) := ⟨by omega, by omega⟩
  have low := Lib.hid (fun W0 => lowest_any (p * s) (q * r) W0 hN hD m4)
  rw [mk_small hN hD m4]
  clear c1 c2 m1 m3 m4 hq hs hD hN
  go_enter Try.func60, Try.ntmps60
  go_wp2_with fail
  refine (right_any _ _ _).mono ?_
  rintro e w1 ⟨rfl, rfl⟩
  rw [e1]
  go_wp2_with fail
  refine (right_any _ _ _).mono ?_
  rintro e w1 ⟨rfl, rfl⟩
  rw [e2]
  go_wp2_with fail
  refine (small_any _ _ _).mono ?_
  rintro e w1 ⟨rfl, rfl⟩
  rw [k1]
  go_wp2_with fail
  refine (small_any _ _ _).mono ?_
  rintro e w1 ⟨rfl, rfl⟩
  rw [k2]
  go_wp2_with fail
  refine (low.out _).mono ?_
  rintro e w1 ⟨rfl, hb1⟩
  obtain ⟨g1, g2, g3⟩ := bgrow hb1
  have hbw : Below w.heap.size w w1 := by refine Below.trans ?_ (hb1.mono Z2t1); exact Z2t0
  have z0 : w1.cell? ⟨w.heap.size + 1 + 1, 0, none⟩ = some (.int .i64 0) := by rw [g1 _ _ Z2t1]; simp [go_sem]
  have z1 : w1.cell? ⟨w.heap.size + 1 + 1, 1, none⟩ = some (.int .i64 0) := by rw [g1 _ _ Z2t1]; simp [go_sem]
  go_wp2
  exact bodyPost_ret (v := RB (lowP (p * s) (q * r), lowQ (p * s) (q * r), true)) Z2t4 rfl ⟨rfl, Z2t0⟩

theorem over_large (p q r s : Int) (w : World) (hp : In64 p) (hq : In64 q) (hr : In64 r) (hs : In64 s) (q0 : 0 < q) (s0 : 0 < s) (r0 : r ≠ 0) (hk : ¬ (smallB p q = true ∧ smallB r s = true ∧ 0 < r)) :
    Calls Try.prog 60 #[RV p q, RV r s] w fun e w' => e = .returned (RB (overL p q r s)) ∧ Below w.heap.size w w' := by
  have hmf := run_makeFunc
  have ff := Lib.hid (fun (W0 : World) (ba bb : Nat) => over1_fits p q r s W0 ba bb hp hq hr hs q0 s0 r0)
  have e1 : decide (0 < q) = true := decide_eq_true q0
  have e2 : decide (0 < s) = true := decide_eq_true s0
  have e4 : (r == 0) = false := beq_eq_false_iff_ne.2 r0
  have hc : smallB p q = false ∨ (smallB p q = true ∧ smallB r s = false) ∨ (smallB p q = true ∧ smallB r s = true ∧ decide (0 < r) = false) := by
    by_cases h3 : smallB p q = true ∧ smallB r s = true
    · exact .inr (.inr ⟨h3.1, h3.2, decide_eq_false (fun h => hk ⟨h3.1, h3.2, h⟩)⟩)
    · rcases smallB_cases p q r s h3 with h | h
      · exact .inl h
      · exact .inr (.inl h)
  clear hp hq hr hs q0 s0 r0 hk
  generalize overL p q r s = z at *
  obtain ⟨x, y, b⟩ := z
  rcases hc with k1 | ⟨k1, k2⟩ | ⟨k1, k2, k3⟩
  · go_enter Try.func60, Try.ntmps60
    go_wp2_with fail
    refine (right_any _ _ _).mono ?_
    rintro e w1 ⟨rfl, rfl⟩
    rw [e1]
    go_wp2_with fail
    refine (right_any _ _ _).mono ?_
    rintro e w1 ⟨rfl, rfl⟩
    rw [e2]
    go_wp2_with fail
    refine (small_any _ _ _).mono ?_
    rintro e w1 ⟨rfl, rfl⟩
    rw [k1]
    go_wp2_with fail
    refine (ff.out _ _ _ Z2t3 Z2t3 Z2t3 Z2t3).mono ?_
    rintro e w1 ⟨rfl, hb1⟩
    obtain ⟨g1, g2, g3⟩ := bgrow hb1
    have hbw : Below w.heap.size w w1 := by refine Below.trans ?_ (hb1.mono Z2t1); exact Z2t0
    have z0 : w1.cell? ⟨w.heap.size + 1 + 1, 0, none⟩ = some (.int .i64 0) := by rw [g1 _ _ Z2t1]; simp [go_sem]
    have z1 : w1.cell? ⟨w.heap.size + 1 + 1, 1, none⟩ = some (.int .i64 0) := by rw [g1 _ _ Z2t1]; simp [go_sem]
    go_wp2
    exact bodyPost_ret (v := RB (x, y, b)) Z2t4 rfl ⟨rfl, Z2t0⟩
  · go_enter Try.func60, Try.ntmps60
    go_wp2_with fail
    refine (right_any _ _ _).mono ?_
    rintro e w1 ⟨rfl, rfl⟩
    rw [e1]
    go_wp2_with fail
    refine (right_any _ _ _).mono ?_
    rintro e w1 ⟨rfl, rfl⟩
    rw [e2]
    go_wp2_with fail
    refine (small_any _ _ _).mono ?_
    rintro e w1 ⟨rfl, rfl⟩
    rw [k1]
    go_wp2_with fail
    refine (small_any _ _ _).mono ?_
    rintro e w1 ⟨rfl, rfl⟩
    rw [k2]
    go_wp2_with fail
    refine (ff.out _ _ _ Z2t3 Z2t3 Z2t3 Z2t3).mono ?_
    rintro e w1 ⟨rfl, hb1⟩
    obtain ⟨g1, g2, g3⟩ := bgrow hb1
    have hbw : Below w.heap.size w w1 := by refine Below.trans ?_ (hb1.mono Z2t1); exact Z2t0
    have z0 : w1.cell? ⟨w.heap.size + 1 + 1, 0, none⟩ = some (.int .i64 0) := by rw [g1 _ _ Z2t1]; simp [go_sem]
    have z1 : w1.cell? ⟨w.heap.size + 1 + 1, 1, none⟩ = some (.int .i64 0) := by rw [g1 _ _ Z2t1]; simp [go_sem]
    go_wp2
    exact bodyPost_ret (v := RB (x, y, b)) Z2t4 rfl ⟨rfl, Z2t0⟩
  · go_enter Try.func60, Try.ntmps60
    go_wp2_with fail
    refine (right_any _ _ _).mono ?_
    rintro e w1 ⟨rfl, rfl⟩
    rw [e1]
    go_wp2_with fail
    refine (right_any _ _ _).mono ?_
    rintro e w1 ⟨rfl, rfl⟩
    rw [e2]
    go_wp2_with fail
    refine (small_any _ _ _).mono ?_
    rintro e w1 ⟨rfl, rfl⟩
    rw [k1]
    go_wp2_with fail
    refine (small_any _ _ _).mono ?_
    rintro e w1 ⟨rfl, rfl⟩
    rw [k2]
    go_wp2_with fail
    refine (ff.out _ _ _ Z2t3 Z2t3 Z2t3 Z2t3).mono ?_
    rintro e w1 ⟨rfl, hb1⟩
    obtain ⟨g1, g2, g3⟩ := bgrow hb1
    have hbw : Below w.heap.size w w1 := by refine Below.trans ?_ (hb1.mono Z2t1); exact Z2t0
    have z0 : w1.cell? ⟨w.heap.size + 1 + 1, 0, none⟩ = some (.int .i64 0) := by rw [g1 _ _ Z2t1]; simp [go_sem]
    have z1 : w1.cell? ⟨w.heap.size + 1 + 1, 1, none⟩ = some (.int .i64 0) := by rw [g1 _ _ Z2t1]; simp [go_sem]
    go_wp2
    exact bodyPost_ret (v := RB (x, y, b)) Z2t4 rfl ⟨rfl, Z2t0⟩

end Go.Proofs.Ytdkbnbebioflaaa.Num
