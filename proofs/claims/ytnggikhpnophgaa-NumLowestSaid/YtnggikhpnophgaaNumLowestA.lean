/- The walk of NumLowest, where both rats are right. -/
import Derived.Test.YtnggikhpnophgaaNumRats
namespace Go.Proofs.Ytnggikhpnophgaa.Given
open Go.RowKit Go.Proofs.Ytnggikhpnophgaa.Num
set_option linter.unusedVariables false
set_option linter.unusedSimpArgs false

set_option maxRecDepth 100000 in
set_option maxHeartbeats 64000000 in
theorem lowest_yes (p q r s : Int) {P1 P2 R1 R2 xa1 xa2 xb1 xb2 xc1 xc2 xd1 xd2 da1 da2 db1 db2 dc1 dc2 dd1 dd2 o1 o2 : Int} {B0 B1 B2 B3 I0 I1 I2 I3 O : Bool} (w : World)
    (k0 : ∀ w, Calls Try.prog 22 #[.int .i64 p, .int .i64 q, .int .i64 r, .int .i64 s] w fun e w' => e = .returned (.tuple #[.agg #[.int .i64 P1, .int .i64 P2], .agg #[.int .i64 R1, .int .i64 R2], .bool true]) ∧ Below w.heap.size w w')
    (kx0 : ∀ w, Calls Try.prog 23 #[.agg #[.int .i64 P1, .int .i64 P2], .agg #[.int .i64 R1, .int .i64 R2]] w fun e w' => e = .returned (.tuple #[.agg #[.int .i64 xa1, .int .i64 xa2], .bool B0]) ∧ Below w.heap.size w w')
    (km0 : ∀ w, Calls Try.prog 15 #[.int .i64 xa1, .int .i64 xa2] w fun e w' => e = .returned (.tuple #[.agg #[.int .i64 da1, .int .i64 da2], .bool I0]) ∧ Below w.heap.size w w')
    (h0 : (B0 = true ∧ I0 = true ∧ da1 = xa1 ∧ da2 = xa2) ∨ (B0 = false ∧ xa1 = 0 ∧ xa2 = 0))
    (kx1 : ∀ w, Calls Try.prog 24 #[.agg #[.int .i64 P1, .int .i64 P2], .agg #[.int .i64 R1, .int .i64 R2]] w fun e w' => e = .returned (.tuple #[.agg #[.int .i64 xb1, .int .i64 xb2], .bool B1]) ∧ Below w.heap.size w w')
    (km1 : ∀ w, Calls Try.prog 15 #[.int .i64 xb1, .int .i64 xb2] w fun e w' => e = .returned (.tuple #[.agg #[.int .i64 db1, .int .i64 db2], .bool I1]) ∧ Below w.heap.size w w')
    (h1 : (B1 = true ∧ I1 = true ∧ db1 = xb1 ∧ db2 = xb2) ∨ (B1 = false ∧ xb1 = 0 ∧ xb2 = 0))
    (kx2 : ∀ w, Calls Try.prog 35 #[.agg #[.int .i64 P1, .int .i64 P2], .agg #[.int .i64 R1, .int .i64 R2]] w fun e w' => e = .returned (.tuple #[.agg #[.int .i64 xc1, .int .i64 xc2], .bool B2]) ∧ Below w.heap.size w w')
    (km2 : ∀ w, Calls Try.prog 15 #[.int .i64 xc1, .int .i64 xc2] w fun e w' => e = .returned (.tuple #[.agg #[.int .i64 dc1, .int .i64 dc2], .bool I2]) ∧ Below w.heap.size w w')
    (h2 : (B2 = true ∧ I2 = true ∧ dc1 = xc1 ∧ dc2 = xc2) ∨ (B2 = false ∧ xc1 = 0 ∧ xc2 = 0))
    (kx3 : ∀ w, Calls Try.prog 36 #[.agg #[.int .i64 P1, .int .i64 P2], .agg #[.int .i64 R1, .int .i64 R2]] w fun e w' => e = .returned (.tuple #[.agg #[.int .i64 xd1, .int .i64 xd2], .bool B3]) ∧ Below w.heap.size w w')
    (km3 : ∀ w, Calls Try.prog 15 #[.int .i64 xd1, .int .i64 xd2] w fun e w' => e = .returned (.tuple #[.agg #[.int .i64 dd1, .int .i64 dd2], .bool I3]) ∧ Below w.heap.size w w')
    (h3 : (B3 = true ∧ I3 = true ∧ dd1 = xd1 ∧ dd2 = xd2) ∨ (B3 = false ∧ xd1 = 0 ∧ xd2 = 0))
    (kO : ∀ w, Calls Try.prog 36 #[.agg #[.int .i64 P1, .int .i64 P2], .agg #[.int .i64 P1, .int .i64 P2]] w fun e w' => e = .returned (.tuple #[.agg #[.int .i64 o1, .int .i64 o2], .bool O]) ∧ Below w.heap.size w w')
    (hO : (O = true ∧ o1 = 1 ∧ o2 = 1 ∧ (P1 == 0) = false ∧ (P1 != 0) = true) ∨ (O = false ∧ P1 = 0))
    (hN : (decide (-9223372036854775808 < p) = false) ∨ (decide (-9223372036854775808 < p) = true ∧ decide (-9223372036854775808 < q) = false) ∨ (decide (-9223372036854775808 < p) = true ∧ decide (-9223372036854775808 < q) = true ∧ wrap64 (-p) = -p ∧ wrap64 (-q) = -q ∧ ∀ w, Calls Try.prog 15 #[.int .i64 (-p), .int .i64 (-q)] w fun e w' => e = .returned (.tuple #[.agg #[.int .i64 P1, .int .i64 P2], .bool true]) ∧ Below w.heap.size w w')) :
    Calls Try.prog 13 #[.int .i64 p, .int .i64 q, .int .i64 r, .int .i64 s] w fun e w' => e = .returned (.bool true) ∧ Below w.heap.size w w' := by
  have HN := Lib.hid hN
  clear hN
  go_enter Try.func13, Try.ntmps13
  go_wp2_with fail
  refine (shown_any _).mono ?_
  rintro e w1 ⟨rfl, hb1⟩
  have hbw1 : Below w.heap.size w w1 := by refine Below.trans ?_ (hb1.mono (by first | exact Nat.le_refl _ | (simp; done) | (simp; omega) | omega)); exact (by repeat (first | exact Below.refl _ _ | with_reducible assumption | refine Below.alloc ?_ (by first | exact Nat.le_refl _ | (simp; done) | (simp; omega) | omega) _ | refine Below.setCell ?_ (by first | exact Nat.le_refl _ | (simp; done) | (simp; omega) | omega) _ | refine Below.drew ?_ | refine bdrewN ?_ _))
  have hz1 := hbw1.size
  go_wp2_with fail
  refine (k0 _).mono ?_
  rintro e w2 ⟨rfl, hb2⟩
  have hbw2 : Below w.heap.size w w2 := by refine Below.trans ?_ (hb2.mono (by first | exact Nat.le_refl _ | (simp; done) | (simp; omega) | omega)); exact (by repeat (first | exact Below.refl _ _ | with_reducible assumption | refine Below.alloc ?_ (by first | exact Nat.le_refl _ | (simp; done) | (simp; omega) | omega) _ | refine Below.setCell ?_ (by first | exact Nat.le_refl _ | (simp; done) | (simp; omega) | omega) _ | refine Below.drew ?_ | refine bdrewN ?_ _))
  have hz2 := hbw2.size
  go_wp2
  go_loopw [13] (fun i wr => ∃ n : Int, 0 ≤ n ∧ n ≤ 4 ∧ i = .int .i64 n ∧ Below w.heap.size w wr ∧ wr.cell? ⟨w2.heap.size, 0, none⟩ = some (.int .i64 P1) ∧ wr.cell? ⟨w2.heap.size, 1, none⟩ = some (.int .i64 P2) ∧ wr.cell? ⟨w2.heap.size + 1, 0, none⟩ = some (.int .i64 R1) ∧ wr.cell? ⟨w2.heap.size + 1, 1, none⟩ = some (.int .i64 R2)) (fun i _ => 4 - (intOf i).toNat)
  case atStart => exact ⟨0, by omega, by omega, rfl, (by repeat (first | exact Below.refl _ _ | with_reducible assumption | refine Below.alloc ?_ (by first | exact Nat.le_refl _ | (simp; done) | (simp; omega) | omega) _ | refine Below.setCell ?_ (by first | exact Nat.le_refl _ | (simp; done) | (simp; omega) | omega) _ | refine Below.drew ?_ | refine bdrewN ?_ _)), by simp [go_sem], by simp [go_sem], by simp [go_sem], by simp [go_sem]⟩
  case round =>
    obtain ⟨n, hn0, hn1, rfl, hbwr, BA0_2, BA1_2, BB0_2, BB1_2⟩ := hrel
    have BAz_2 : w2.heap.size < wr.heap.size := cell_lt BA0_2
    have BBz_2 : w2.heap.size + 1 < wr.heap.size := cell_lt BB0_2
    have hzr := hbwr.size
    obtain rfl | rfl | rfl | rfl | rfl : n = 0 ∨ n = 1 ∨ n = 2 ∨ n = 3 ∨ n = 4 := by omega
    · clear hn0 hn1
      go_wp2_with fail
      refine (kx0 _).mono ?_
      rintro e w3 ⟨rfl, hb3⟩
      have hbw3 : Below w.heap.size w w3 := by refine Below.trans ?_ (hb3.mono (by first | exact Nat.le_refl _ | (simp; done) | (simp; omega) | omega)); exact (by repeat (first | exact Below.refl _ _ | with_reducible assumption | refine Below.alloc ?_ (by first | exact Nat.le_refl _ | (simp; done) | (simp; omega) | omega) _ | refine Below.setCell ?_ (by first | exact Nat.le_refl _ | (simp; done) | (simp; omega) | omega) _ | refine Below.drew ?_ | refine bdrewN ?_ _))
      have hz3 := hbw3.size
      have BA0_3 : w3.cell? ⟨w2.heap.size, 0, none⟩ = some (.int .i64 P1) := keepcell hb3 (by first | exact BA0_2 | exact keepalloc BA0_2 | exact keepalloc (keepalloc BA0_2) | exact keepset (by omega) BA0_2 | (simp [go_sem, BA0_2, Nat.ne_of_lt, Nat.ne_of_gt]; done))
      have BA1_3 : w3.cell? ⟨w2.heap.size, 1, none⟩ = some (.int .i64 P2) := keepcell hb3 (by first | exact BA1_2 | exact keepalloc BA1_2 | exact keepalloc (keepalloc BA1_2) | exact keepset (by omega) BA1_2 | (simp [go_sem, BA1_2, Nat.ne_of_lt, Nat.ne_of_gt]; done))
      have BAz_3 : w2.heap.size < w3.heap.size := cell_lt BA0_3
      have BB0_3 : w3.cell? ⟨w2.heap.size + 1, 0, none⟩ = some (.int .i64 R1) := keepcell hb3 (by first | exact BB0_2 | exact keepalloc BB0_2 | exact keepalloc (keepalloc BB0_2) | exact keepset (by omega) BB0_2 | (simp [go_sem, BB0_2, Nat.ne_of_lt, Nat.ne_of_gt]; done))
      have BB1_3 : w3.cell? ⟨w2.heap.size + 1, 1, none⟩ = some (.int .i64 R2) := keepcell hb3 (by first | exact BB1_2 | exact keepalloc BB1_2 | exact keepalloc (keepalloc BB1_2) | exact keepset (by omega) BB1_2 | (simp [go_sem, BB1_2, Nat.ne_of_lt, Nat.ne_of_gt]; done))
      have BBz_3 : w2.heap.size + 1 < w3.heap.size := cell_lt BB0_3
      go_wp2_with fail
      refine (km0 _).mono ?_
      rintro e w4 ⟨rfl, hb4⟩
      have hbw4 : Below w.heap.size w w4 := by refine Below.trans ?_ (hb4.mono (by first | exact Nat.le_refl _ | (simp; done) | (simp; omega) | omega)); exact (by repeat (first | exact Below.refl _ _ | with_reducible assumption | refine Below.alloc ?_ (by first | exact Nat.le_refl _ | (simp; done) | (simp; omega) | omega) _ | refine Below.setCell ?_ (by first | exact Nat.le_refl _ | (simp; done) | (simp; omega) | omega) _ | refine Below.drew ?_ | refine bdrewN ?_ _))
      have hz4 := hbw4.size
      have BA0_4 : w4.cell? ⟨w2.heap.size, 0, none⟩ = some (.int .i64 P1) := keepcell hb4 (by first | exact BA0_3 | exact keepalloc BA0_3 | exact keepalloc (keepalloc BA0_3) | exact keepset (by omega) BA0_3 | (simp [go_sem, BA0_3, Nat.ne_of_lt, Nat.ne_of_gt]; done))
      have BA1_4 : w4.cell? ⟨w2.heap.size, 1, none⟩ = some (.int .i64 P2) := keepcell hb4 (by first | exact BA1_3 | exact keepalloc BA1_3 | exact keepalloc (keepalloc BA1_3) | exact keepset (by omega) BA1_3 | (simp [go_sem, BA1_3, Nat.ne_of_lt, Nat.ne_of_gt]; done))
      have BAz_4 : w2.heap.size < w4.heap.size := cell_lt BA0_4
      have BB0_4 : w4.cell? ⟨w2.heap.size + 1, 0, none⟩ = some (.int .i64 R1) := keepcell hb4 (by first | exact BB0_3 | exact keepalloc BB0_3 | exact keepalloc (keepalloc BB0_3) | exact keepset (by omega) BB0_3 | (simp [go_sem, BB0_3, Nat.ne_of_lt, Nat.ne_of_gt]; done))
      have BB1_4 : w4.cell? ⟨w2.heap.size + 1, 1, none⟩ = some (.int .i64 R2) := keepcell hb4 (by first | exact BB1_3 | exact keepalloc BB1_3 | exact keepalloc (keepalloc BB1_3) | exact keepset (by omega) BB1_3 | (simp [go_sem, BB1_3, Nat.ne_of_lt, Nat.ne_of_gt]; done))
      have BBz_4 : w2.heap.size + 1 < w4.heap.size := cell_lt BB0_4
      have BC0_4 : w4.cell? ⟨w3.heap.size, 0, none⟩ = some (.int .i64 xa1) := keepcell hb4 (by simp [go_sem]; done)
      have BC1_4 : w4.cell? ⟨w3.heap.size, 1, none⟩ = some (.int .i64 xa2) := keepcell hb4 (by simp [go_sem]; done)
      have BCz_4 : w3.heap.size < w4.heap.size := cell_lt BC0_4
      rcases h0 with ⟨rfl, rfl, rfl, rfl⟩ | ⟨rfl, rfl, rfl⟩
      all_goals (
        go_wp2
        go_roundw
        case rel => exact ⟨1, by omega, by omega, rfl, (by repeat (first | exact Below.refl _ _ | with_reducible assumption | refine Below.alloc ?_ (by first | exact Nat.le_refl _ | (simp; done) | (simp; omega) | omega) _ | refine Below.setCell ?_ (by first | exact Nat.le_refl _ | (simp; done) | (simp; omega) | omega) _ | refine Below.drew ?_ | refine bdrewN ?_ _)), keepalloc BA0_4, keepalloc BA1_4, keepalloc BB0_4, keepalloc BB1_4⟩
        case measure => simp [intOf])
    · clear hn0 hn1
      go_wp2_with fail
      refine (kx0 _).mono ?_
      rintro e w3 ⟨rfl, hb3⟩
      have hbw3 : Below w.heap.size w w3 := by refine Below.trans ?_ (hb3.mono (by first | exact Nat.le_refl _ | (simp; done) | (simp; omega) | omega)); exact (by repeat (first | exact Below.refl _ _ | with_reducible assumption | refine Below.alloc ?_ (by first | exact Nat.le_refl _ | (simp; done) | (simp; omega) | omega) _ | refine Below.setCell ?_ (by first | exact Nat.le_refl _ | (simp; done) | (simp; omega) | omega) _ | refine Below.drew ?_ | refine bdrewN ?_ _))
      have hz3 := hbw3.size
      have BA0_3 : w3.cell? ⟨w2.heap.size, 0, none⟩ = some (.int .i64 P1) := keepcell hb3 (by first | exact BA0_2 | exact keepalloc BA0_2 | exact keepalloc (keepalloc BA0_2) | exact keepset (by omega) BA0_2 | (simp [go_sem, BA0_2, Nat.ne_of_lt, Nat.ne_of_gt]; done))
      have BA1_3 : w3.cell? ⟨w2.heap.size, 1, none⟩ = some (.int .i64 P2) := keepcell hb3 (by first | exact BA1_2 | exact keepalloc BA1_2 | exact keepalloc (keepalloc BA1_2) | exact keepset (by omega) BA1_2 | (simp [go_sem, BA1_2, Nat.ne_of_lt, Nat.ne_of_gt]; done))
      have BAz_3 : w2.heap.size < w3.heap.size := cell_lt BA0_3
      have BB0_3 : w3.cell? ⟨w2.heap.size + 1, 0, none⟩ = some (.int .i64 R1) := keepcell hb3 (by first | exact BB0_2 | exact keepalloc BB0_2 | exact keepalloc (keepalloc BB0_2) | exact keepset (by omega) BB0_2 | (simp [go_sem, BB0_2, Nat.ne_of_lt, Nat.ne_of_gt]; done))
      have BB1_3 : w3.cell? ⟨w2.heap.size + 1, 1, none⟩ = some (.int .i64 R2) := keepcell hb3 (by first | exact BB1_2 | exact keepalloc BB1_2 | exact keepalloc (keepalloc BB1_2) | exact keepset (by omega) BB1_2 | (simp [go_sem, BB1_2, Nat.ne_of_lt, Nat.ne_of_gt]; done))
      have BBz_3 : w2.heap.size + 1 < w3.heap.size := cell_lt BB0_3
      go_wp2_with fail
      refine (kx1 _).mono ?_
      rintro e w4 ⟨rfl, hb4⟩
      have hbw4 : Below w.heap.size w w4 := by refine Below.trans ?_ (hb4.mono (by first | exact Nat.le_refl _ | (simp; done) | (simp; omega) | omega)); exact (by repeat (first | exact Below.refl _ _ | with_reducible assumption | refine Below.alloc ?_ (by first | exact Nat.le_refl _ | (simp; done) | (simp; omega) | omega) _ | refine Below.setCell ?_ (by first | exact Nat.le_refl _ | (simp; done) | (simp; omega) | omega) _ | refine Below.drew ?_ | refine bdrewN ?_ _))
      have hz4 := hbw4.size
      have BA0_4 : w4.cell? ⟨w2.heap.size, 0, none⟩ = some (.int .i64 P1) := keepcell hb4 (by first | exact BA0_3 | exact keepalloc BA0_3 | exact keepalloc (keepalloc BA0_3) | exact keepset (by omega) BA0_3 | (simp [go_sem, BA0_3, Nat.ne_of_lt, Nat.ne_of_gt]; done))
      have BA1_4 : w4.cell? ⟨w2.heap.size, 1, none⟩ = some (.int .i64 P2) := keepcell hb4 (by first | exact BA1_3 | exact keepalloc BA1_3 | exact keepalloc (keepalloc BA1_3) | exact keepset (by omega) BA1_3 | (simp [go_sem, BA1_3, Nat.ne_of_lt, Nat.ne_of_gt]; done))
      have BAz_4 : w2.heap.size < w4.heap.size := cell_lt BA0_4
      have BB0_4 : w4.cell? ⟨w2.heap.size + 1, 0, none⟩ = some (.int .i64 R1) := keepcell hb4 (by first | exact BB0_3 | exact keepalloc BB0_3 | exact keepalloc (keepalloc BB0_3) | exact keepset (by omega) BB0_3 | (simp [go_sem, BB0_3, Nat.ne_of_lt, Nat.ne_of_gt]; done))
      have BB1_4 : w4.cell? ⟨w2.heap.size + 1, 1, none⟩ = some (.int .i64 R2) := keepcell hb4 (by first | exact BB1_3 | exact keepalloc BB1_3 | exact keepalloc (keepalloc BB1_3) | exact keepset (by omega) BB1_3 | (simp [go_sem, BB1_3, Nat.ne_of_lt, Nat.ne_of_gt]; done))
      have BBz_4 : w2.heap.size + 1 < w4.heap.size := cell_lt BB0_4
      have BC0_4 : w4.cell? ⟨w3.heap.size, 0, none⟩ = some (.int .i64 xa1) := keepcell hb4 (by simp [go_sem]; done)
      have BC1_4 : w4.cell? ⟨w3.heap.size, 1, none⟩ = some (.int .i64 xa2) := keepcell hb4 (by simp [go_sem]; done)
      have BCf0_4 : w4.frozen? ⟨w3.heap.size, 0, none⟩ = false := keepfroz hb4 (by first | (simp; done) | (simp; omega)) (by simp [go_sem]; done)
      have BCf1_4 : w4.frozen? ⟨w3.heap.size, 1, none⟩ = false := keepfroz hb4 (by first | (simp; done) | (simp; omega)) (by simp [go_sem]; done)
      have BCz_4 : w3.heap.size < w4.heap.size := cell_lt BC0_4
      go_wp2_with fail
      refine (km1 _).mono ?_
      rintro e w5 ⟨rfl, hb5⟩
      have hbw5 : Below w.heap.size w w5 := by refine Below.trans ?_ (hb5.mono (by first | exact Nat.le_refl _ | (simp; done) | (simp; omega) | omega)); exact (by repeat (first | exact Below.refl _ _ | with_reducible assumption | refine Below.alloc ?_ (by first | exact Nat.le_refl _ | (simp; done) | (simp; omega) | omega) _ | refine Below.setCell ?_ (by first | exact Nat.le_refl _ | (simp; done) | (simp; omega) | omega) _ | refine Below.drew ?_ | refine bdrewN ?_ _))
      have hz5 := hbw5.size
      have BA0_5 : w5.cell? ⟨w2.heap.size, 0, none⟩ = some (.int .i64 P1) := keepcell hb5 (keepset (by omega) (keepset (by omega) BA0_4))
      have BA1_5 : w5.cell? ⟨w2.heap.size, 1, none⟩ = some (.int .i64 P2) := keepcell hb5 (keepset (by omega) (keepset (by omega) BA1_4))
      have BAz_5 : w2.heap.size < w5.heap.size := cell_lt BA0_5
      have BB0_5 : w5.cell? ⟨w2.heap.size + 1, 0, none⟩ = some (.int .i64 R1) := keepcell hb5 (keepset (by omega) (keepset (by omega) BB0_4))
      have BB1_5 : w5.cell? ⟨w2.heap.size + 1, 1, none⟩ = some (.int .i64 R2) := keepcell hb5 (keepset (by omega) (keepset (by omega) BB1_4))
      have BBz_5 : w2.heap.size + 1 < w5.heap.size := cell_lt BB0_5
      have BC0_5 : w5.cell? ⟨w3.heap.size, 0, none⟩ = some (.int .i64 xb1) := keepcell hb5 (by simp [go_sem, BC0_4, BC1_4]; done)
      have BC1_5 : w5.cell? ⟨w3.heap.size, 1, none⟩ = some (.int .i64 xb2) := keepcell hb5 (by simp [go_sem, BC0_4, BC1_4]; done)
      have BCf0_5 : w5.frozen? ⟨w3.heap.size, 0, none⟩ = false := keepfroz hb5 (by first | (simp; done) | (simp; omega)) (by simp [go_sem, BCf0_4, BCf1_4]; done)
      have BCf1_5 : w5.frozen? ⟨w3.heap.size, 1, none⟩ = false := keepfroz hb5 (by first | (simp; done) | (simp; omega)) (by simp [go_sem, BCf0_4, BCf1_4]; done)
      have BCz_5 : w3.heap.size < w5.heap.size := cell_lt BC0_5
      rcases h1 with ⟨rfl, rfl, rfl, rfl⟩ | ⟨rfl, rfl, rfl⟩
      all_goals (
        go_wp2
        go_roundw
        case rel => exact ⟨2, by omega, by omega, rfl, (by repeat (first | exact Below.refl _ _ | with_reducible assumption | refine Below.alloc ?_ (by first | exact Nat.le_refl _ | (simp; done) | (simp; omega) | omega) _ | refine Below.setCell ?_ (by first | exact Nat.le_refl _ | (simp; done) | (simp; omega) | omega) _ | refine Below.drew ?_ | refine bdrewN ?_ _)), keepalloc BA0_5, keepalloc BA1_5, keepalloc BB0_5, keepalloc BB1_5⟩
        case measure => simp [intOf])
    · clear hn0 hn1
      go_wp2_with fail
      refine (kx0 _).mono ?_
      rintro e w3 ⟨rfl, hb3⟩
      have hbw3 : Below w.heap.size w w3 := by refine Below.trans ?_ (hb3.mono (by first | exact Nat.le_refl _ | (simp; done) | (simp; omega) | omega)); exact (by repeat (first | exact Below.refl _ _ | with_reducible assumption | refine Below.alloc ?_ (by first | exact Nat.le_refl _ | (simp; done) | (simp; omega) | omega) _ | refine Below.setCell ?_ (by first | exact Nat.le_refl _ | (simp; done) | (simp; omega) | omega) _ | refine Below.drew ?_ | refine bdrewN ?_ _))
      have hz3 := hbw3.size
      have BA0_3 : w3.cell? ⟨w2.heap.size, 0, none⟩ = some (.int .i64 P1) := keepcell hb3 (by first | exact BA0_2 | exact keepalloc BA0_2 | exact keepalloc (keepalloc BA0_2) | exact keepset (by omega) BA0_2 | (simp [go_sem, BA0_2, Nat.ne_of_lt, Nat.ne_of_gt]; done))
      have BA1_3 : w3.cell? ⟨w2.heap.size, 1, none⟩ = some (.int .i64 P2) := keepcell hb3 (by first | exact BA1_2 | exact keepalloc BA1_2 | exact keepalloc (keepalloc BA1_2) | exact keepset (by omega) BA1_2 | (simp [go_sem, BA1_2, Nat.ne_of_lt, Nat.ne_of_gt]; done))
      have BAz_3 : w2.heap.size < w3.heap.size := cell_lt BA0_3
      have BB0_3 : w3.cell? ⟨w2.heap.size + 1, 0, none⟩ = some (.int .i64 R1) := keepcell hb3 (by first | exact BB0_2 | exact keepalloc BB0_2 | exact keepalloc (keepalloc BB0_2) | exact keepset (by omega) BB0_2 | (simp [go_sem, BB0_2, Nat.ne_of_lt, Nat.ne_of_gt]; done))
      have BB1_3 : w3.cell? ⟨w2.heap.size + 1, 1, none⟩ = some (.int .i64 R2) := keepcell hb3 (by first | exact BB1_2 | exact keepalloc BB1_2 | exact keepalloc (keepalloc BB1_2) | exact keepset (by omega) BB1_2 | (simp [go_sem, BB1_2, Nat.ne_of_lt, Nat.ne_of_gt]; done))
      have BBz_3 : w2.heap.size + 1 < w3.heap.size := cell_lt BB0_3
      go_wp2_with fail
      refine (kx2 _).mono ?_
      rintro e w4 ⟨rfl, hb4⟩
      have hbw4 : Below w.heap.size w w4 := by refine Below.trans ?_ (hb4.mono (by first | exact Nat.le_refl _ | (simp; done) | (simp; omega) | omega)); exact (by repeat (first | exact Below.refl _ _ | with_reducible assumption | refine Below.alloc ?_ (by first | exact Nat.le_refl _ | (simp; done) | (simp; omega) | omega) _ | refine Below.setCell ?_ (by first | exact Nat.le_refl _ | (simp; done) | (simp; omega) | omega) _ | refine Below.drew ?_ | refine bdrewN ?_ _))
      have hz4 := hbw4.size
      have BA0_4 : w4.cell? ⟨w2.heap.size, 0, none⟩ = some (.int .i64 P1) := keepcell hb4 (by first | exact BA0_3 | exact keepalloc BA0_3 | exact keepalloc (keepalloc BA0_3) | exact keepset (by omega) BA0_3 | (simp [go_sem, BA0_3, Nat.ne_of_lt, Nat.ne_of_gt]; done))
      have BA1_4 : w4.cell? ⟨w2.heap.size, 1, none⟩ = some (.int .i64 P2) := keepcell hb4 (by first | exact BA1_3 | exact keepalloc BA1_3 | exact keepalloc (keepalloc BA1_3) | exact keepset (by omega) BA1_3 | (simp [go_sem, BA1_3, Nat.ne_of_lt, Nat.ne_of_gt]; done))
      have BAz_4 : w2.heap.size < w4.heap.size := cell_lt BA0_4
      have BB0_4 : w4.cell? ⟨w2.heap.size + 1, 0, none⟩ = some (.int .i64 R1) := keepcell hb4 (by first | exact BB0_3 | exact keepalloc BB0_3 | exact keepalloc (keepalloc BB0_3) | exact keepset (by omega) BB0_3 | (simp [go_sem, BB0_3, Nat.ne_of_lt, Nat.ne_of_gt]; done))
      have BB1_4 : w4.cell? ⟨w2.heap.size + 1, 1, none⟩ = some (.int .i64 R2) := keepcell hb4 (by first | exact BB1_3 | exact keepalloc BB1_3 | exact keepalloc (keepalloc BB1_3) | exact keepset (by omega) BB1_3 | (simp [go_sem, BB1_3, Nat.ne_of_lt, Nat.ne_of_gt]; done))
      have BBz_4 : w2.heap.size + 1 < w4.heap.size := cell_lt BB0_4
      have BC0_4 : w4.cell? ⟨w3.heap.size, 0, none⟩ = some (.int .i64 xa1) := keepcell hb4 (by simp [go_sem]; done)
      have BC1_4 : w4.cell? ⟨w3.heap.size, 1, none⟩ = some (.int .i64 xa2) := keepcell hb4 (by simp [go_sem]; done)
      have BCf0_4 : w4.frozen? ⟨w3.heap.size, 0, none⟩ = false := keepfroz hb4 (by first | (simp; done) | (simp; omega)) (by simp [go_sem]; done)
      have BCf1_4 : w4.frozen? ⟨w3.heap.size, 1, none⟩ = false := keepfroz hb4 (by first | (simp; done) | (simp; omega)) (by simp [go_sem]; done)
      have BCz_4 : w3.heap.size < w4.heap.size := cell_lt BC0_4
      go_wp2_with fail
      refine (km2 _).mono ?_
      rintro e w5 ⟨rfl, hb5⟩
      have hbw5 : Below w.heap.size w w5 := by refine Below.trans ?_ (hb5.mono (by first | exact Nat.le_refl _ | (simp; done) | (simp; omega) | omega)); exact (by repeat (first | exact Below.refl _ _ | with_reducible assumption | refine Below.alloc ?_ (by first | exact Nat.le_refl _ | (simp; done) | (simp; omega) | omega) _ | refine Below.setCell ?_ (by first | exact Nat.le_refl _ | (simp; done) | (simp; omega) | omega) _ | refine Below.drew ?_ | refine bdrewN ?_ _))
      have hz5 := hbw5.size
      have BA0_5 : w5.cell? ⟨w2.heap.size, 0, none⟩ = some (.int .i64 P1) := keepcell hb5 (keepset (by omega) (keepset (by omega) BA0_4))
      have BA1_5 : w5.cell? ⟨w2.heap.size, 1, none⟩ = some (.int .i64 P2) := keepcell hb5 (keepset (by omega) (keepset (by omega) BA1_4))
      have BAz_5 : w2.heap.size < w5.heap.size := cell_lt BA0_5
      have BB0_5 : w5.cell? ⟨w2.heap.size + 1, 0, none⟩ = some (.int .i64 R1) := keepcell hb5 (keepset (by omega) (keepset (by omega) BB0_4))
      have BB1_5 : w5.cell? ⟨w2.heap.size + 1, 1, none⟩ = some (.int .i64 R2) := keepcell hb5 (keepset (by omega) (keepset (by omega) BB1_4))
      have BBz_5 : w2.heap.size + 1 < w5.heap.size := cell_lt BB0_5
      have BC0_5 : w5.cell? ⟨w3.heap.size, 0, none⟩ = some (.int .i64 xc1) := keepcell hb5 (by simp [go_sem, BC0_4, BC1_4]; done)
      have BC1_5 : w5.cell? ⟨w3.heap.size, 1, none⟩ = some (.int .i64 xc2) := keepcell hb5 (by simp [go_sem, BC0_4, BC1_4]; done)
      have BCf0_5 : w5.frozen? ⟨w3.heap.size, 0, none⟩ = false := keepfroz hb5 (by first | (simp; done) | (simp; omega)) (by simp [go_sem, BCf0_4, BCf1_4]; done)
      have BCf1_5 : w5.frozen? ⟨w3.heap.size, 1, none⟩ = false := keepfroz hb5 (by first | (simp; done) | (simp; omega)) (by simp [go_sem, BCf0_4, BCf1_4]; done)
      have BCz_5 : w3.heap.size < w5.heap.size := cell_lt BC0_5
      rcases h2 with ⟨rfl, rfl, rfl, rfl⟩ | ⟨rfl, rfl, rfl⟩
      all_goals (
        go_wp2
        go_roundw
        case rel => exact ⟨3, by omega, by omega, rfl, (by repeat (first | exact Below.refl _ _ | with_reducible assumption | refine Below.alloc ?_ (by first | exact Nat.le_refl _ | (simp; done) | (simp; omega) | omega) _ | refine Below.setCell ?_ (by first | exact Nat.le_refl _ | (simp; done) | (simp; omega) | omega) _ | refine Below.drew ?_ | refine bdrewN ?_ _)), keepalloc BA0_5, keepalloc BA1_5, keepalloc BB0_5, keepalloc BB1_5⟩
        case measure => simp [intOf])
    · clear hn0 hn1
      go_wp2_with fail
      refine (kx0 _).mono ?_
      rintro e w3 ⟨rfl, hb3⟩
      have hbw3 : Below w.heap.size w w3 := by refine Below.trans ?_ (hb3.mono (by first | exact Nat.le_refl _ | (simp; done) | (simp; omega) | omega)); exact (by repeat (first | exact Below.refl _ _ | with_reducible assumption | refine Below.alloc ?_ (by first | exact Nat.le_refl _ | (simp; done) | (simp; omega) | omega) _ | refine Below.setCell ?_ (by first | exact Nat.le_refl _ | (simp; done) | (simp; omega) | omega) _ | refine Below.drew ?_ | refine bdrewN ?_ _))
      have hz3 := hbw3.size
      have BA0_3 : w3.cell? ⟨w2.heap.size, 0, none⟩ = some (.int .i64 P1) := keepcell hb3 (by first | exact BA0_2 | exact keepalloc BA0_2 | exact keepalloc (keepalloc BA0_2) | exact keepset (by omega) BA0_2 | (simp [go_sem, BA0_2, Nat.ne_of_lt, Nat.ne_of_gt]; done))
      have BA1_3 : w3.cell? ⟨w2.heap.size, 1, none⟩ = some (.int .i64 P2) := keepcell hb3 (by first | exact BA1_2 | exact keepalloc BA1_2 | exact keepalloc (keepalloc BA1_2) | exact keepset (by omega) BA1_2 | (simp [go_sem, BA1_2, Nat.ne_of_lt, Nat.ne_of_gt]; done))
      have BAz_3 : w2.heap.size < w3.heap.size := cell_lt BA0_3
      have BB0_3 : w3.cell? ⟨w2.heap.size + 1, 0, none⟩ = some (.int .i64 R1) := keepcell hb3 (by first | exact BB0_2 | exact keepalloc BB0_2 | exact keepalloc (keepalloc BB0_2) | exact keepset (by omega) BB0_2 | (simp [go_sem, BB0_2, Nat.ne_of_lt, Nat.ne_of_gt]; done))
      have BB1_3 : w3.cell? ⟨w2.heap.size + 1, 1, none⟩ = some (.int .i64 R2) := keepcell hb3 (by first | exact BB1_2 | exact keepalloc BB1_2 | exact keepalloc (keepalloc BB1_2) | exact keepset (by omega) BB1_2 | (simp [go_sem, BB1_2, Nat.ne_of_lt, Nat.ne_of_gt]; done))
      have BBz_3 : w2.heap.size + 1 < w3.heap.size := cell_lt BB0_3
      go_wp2_with fail
      refine (kx3 _).mono ?_
      rintro e w4 ⟨rfl, hb4⟩
      have hbw4 : Below w.heap.size w w4 := by refine Below.trans ?_ (hb4.mono (by first | exact Nat.le_refl _ | (simp; done) | (simp; omega) | omega)); exact (by repeat (first | exact Below.refl _ _ | with_reducible assumption | refine Below.alloc ?_ (by first | exact Nat.le_refl _ | (simp; done) | (simp; omega) | omega) _ | refine Below.setCell ?_ (by first | exact Nat.le_refl _ | (simp; done) | (simp; omega) | omega) _ | refine Below.drew ?_ | refine bdrewN ?_ _))
      have hz4 := hbw4.size
      have BA0_4 : w4.cell? ⟨w2.heap.size, 0, none⟩ = some (.int .i64 P1) := keepcell hb4 (by first | exact BA0_3 | exact keepalloc BA0_3 | exact keepalloc (keepalloc BA0_3) | exact keepset (by omega) BA0_3 | (simp [go_sem, BA0_3, Nat.ne_of_lt, Nat.ne_of_gt]; done))
      have BA1_4 : w4.cell? ⟨w2.heap.size, 1, none⟩ = some (.int .i64 P2) := keepcell hb4 (by first | exact BA1_3 | exact keepalloc BA1_3 | exact keepalloc (keepalloc BA1_3) | exact keepset (by omega) BA1_3 | (simp [go_sem, BA1_3, Nat.ne_of_lt, Nat.ne_of_gt]; done))
      have BAz_4 : w2.heap.size < w4.heap.size := cell_lt BA0_4
      have BB0_4 : w4.cell? ⟨w2.heap.size + 1, 0, none⟩ = some (.int .i64 R1) := keepcell hb4 (by first | exact BB0_3 | exact keepalloc BB0_3 | exact keepalloc (keepalloc BB0_3) | exact keepset (by omega) BB0_3 | (simp [go_sem, BB0_3, Nat.ne_of_lt, Nat.ne_of_gt]; done))
      have BB1_4 : w4.cell? ⟨w2.heap.size + 1, 1, none⟩ = some (.int .i64 R2) := keepcell hb4 (by first | exact BB1_3 | exact keepalloc BB1_3 | exact keepalloc (keepalloc BB1_3) | exact keepset (by omega) BB1_3 | (simp [go_sem, BB1_3, Nat.ne_of_lt, Nat.ne_of_gt]; done))
      have BBz_4 : w2.heap.size + 1 < w4.heap.size := cell_lt BB0_4
      have BC0_4 : w4.cell? ⟨w3.heap.size, 0, none⟩ = some (.int .i64 xa1) := keepcell hb4 (by simp [go_sem]; done)
      have BC1_4 : w4.cell? ⟨w3.heap.size, 1, none⟩ = some (.int .i64 xa2) := keepcell hb4 (by simp [go_sem]; done)
      have BCf0_4 : w4.frozen? ⟨w3.heap.size, 0, none⟩ = false := keepfroz hb4 (by first | (simp; done) | (simp; omega)) (by simp [go_sem]; done)
      have BCf1_4 : w4.frozen? ⟨w3.heap.size, 1, none⟩ = false := keepfroz hb4 (by first | (simp; done) | (simp; omega)) (by simp [go_sem]; done)
      have BCz_4 : w3.heap.size < w4.heap.size := cell_lt BC0_4
      go_wp2_with fail
      refine (km3 _).mono ?_
      rintro e w5 ⟨rfl, hb5⟩
      have hbw5 : Below w.heap.size w w5 := by refine Below.trans ?_ (hb5.mono (by first | exact Nat.le_refl _ | (simp; done) | (simp; omega) | omega)); exact (by repeat (first | exact Below.refl _ _ | with_reducible assumption | refine Below.alloc ?_ (by first | exact Nat.le_refl _ | (simp; done) | (simp; omega) | omega) _ | refine Below.setCell ?_ (by first | exact Nat.le_refl _ | (simp; done) | (simp; omega) | omega) _ | refine Below.drew ?_ | refine bdrewN ?_ _))
      have hz5 := hbw5.size
      have BA0_5 : w5.cell? ⟨w2.heap.size, 0, none⟩ = some (.int .i64 P1) := keepcell hb5 (keepset (by omega) (keepset (by omega) BA0_4))
      have BA1_5 : w5.cell? ⟨w2.heap.size, 1, none⟩ = some (.int .i64 P2) := keepcell hb5 (keepset (by omega) (keepset (by omega) BA1_4))
      have BAz_5 : w2.heap.size < w5.heap.size := cell_lt BA0_5
      have BB0_5 : w5.cell? ⟨w2.heap.size + 1, 0, none⟩ = some (.int .i64 R1) := keepcell hb5 (keepset (by omega) (keepset (by omega) BB0_4))
      have BB1_5 : w5.cell? ⟨w2.heap.size + 1, 1, none⟩ = some (.int .i64 R2) := keepcell hb5 (keepset (by omega) (keepset (by omega) BB1_4))
      have BBz_5 : w2.heap.size + 1 < w5.heap.size := cell_lt BB0_5
      have BC0_5 : w5.cell? ⟨w3.heap.size, 0, none⟩ = some (.int .i64 xd1) := keepcell hb5 (by simp [go_sem, BC0_4, BC1_4]; done)
      have BC1_5 : w5.cell? ⟨w3.heap.size, 1, none⟩ = some (.int .i64 xd2) := keepcell hb5 (by simp [go_sem, BC0_4, BC1_4]; done)
      have BCf0_5 : w5.frozen? ⟨w3.heap.size, 0, none⟩ = false := keepfroz hb5 (by first | (simp; done) | (simp; omega)) (by simp [go_sem, BCf0_4, BCf1_4]; done)
      have BCf1_5 : w5.frozen? ⟨w3.heap.size, 1, none⟩ = false := keepfroz hb5 (by first | (simp; done) | (simp; omega)) (by simp [go_sem, BCf0_4, BCf1_4]; done)
      have BCz_5 : w3.heap.size < w5.heap.size := cell_lt BC0_5
      rcases h3 with ⟨rfl, rfl, rfl, rfl⟩ | ⟨rfl, rfl, rfl⟩
      all_goals (
        go_wp2
        go_roundw
        case rel => exact ⟨4, by omega, by omega, rfl, (by repeat (first | exact Below.refl _ _ | with_reducible assumption | refine Below.alloc ?_ (by first | exact Nat.le_refl _ | (simp; done) | (simp; omega) | omega) _ | refine Below.setCell ?_ (by first | exact Nat.le_refl _ | (simp; done) | (simp; omega) | omega) _ | refine Below.drew ?_ | refine bdrewN ?_ _)), keepalloc BA0_5, keepalloc BA1_5, keepalloc BB0_5, keepalloc BB1_5⟩
        case measure => simp [intOf])
    · clear hn0 hn1 hzr
      go_wp2_with fail
      refine (kO _).mono ?_
      rintro e w3 ⟨rfl, hb3⟩
      have hbw3 : Below w.heap.size w w3 := by refine Below.trans ?_ (hb3.mono (by first | exact Nat.le_refl _ | (simp; done) | (simp; omega) | omega)); exact (by repeat (first | exact Below.refl _ _ | with_reducible assumption | refine Below.alloc ?_ (by first | exact Nat.le_refl _ | (simp; done) | (simp; omega) | omega) _ | refine Below.setCell ?_ (by first | exact Nat.le_refl _ | (simp; done) | (simp; omega) | omega) _ | refine Below.drew ?_ | refine bdrewN ?_ _))
      have hz3 := hbw3.size
      have BA0_3 : w3.cell? ⟨w2.heap.size, 0, none⟩ = some (.int .i64 P1) := keepcell hb3 (by first | exact BA0_2 | exact keepalloc BA0_2 | exact keepalloc (keepalloc BA0_2) | exact keepset (by omega) BA0_2 | (simp [go_sem, BA0_2, Nat.ne_of_lt, Nat.ne_of_gt]; done))
      have BA1_3 : w3.cell? ⟨w2.heap.size, 1, none⟩ = some (.int .i64 P2) := keepcell hb3 (by first | exact BA1_2 | exact keepalloc BA1_2 | exact keepalloc (keepalloc BA1_2) | exact keepset (by omega) BA1_2 | (simp [go_sem, BA1_2, Nat.ne_of_lt, Nat.ne_of_gt]; done))
      have BAz_3 : w2.heap.size < w3.heap.size := cell_lt BA0_3
      have hN := HN.out
      rcases hN with hN | ⟨hN, hN2⟩ | ⟨hN, hN2, hN3, hN4, kN⟩
      · rcases hO with ⟨rfl, rfl, rfl, hO1, hO2⟩ | ⟨rfl, rfl⟩
        · go_wp2
          refine wp_region_held_drew (S := (fun w' => w'.cell? ⟨w2.heap.size, 0, none⟩ = some (.int .i64 P1) ∧ w'.cell? ⟨w2.heap.size, 1, none⟩ = some (.int .i64 P2) ∧ w'.cell? ⟨w3.heap.size, 0, none⟩ = some (.int .i64 1) ∧ w'.cell? ⟨w3.heap.size, 1, none⟩ = some (.int .i64 1) ∧ w'.cell? ⟨w3.heap.size + 1, 0, none⟩ = some (.int .i64 P1) ∧ w'.cell? ⟨w3.heap.size + 1, 1, none⟩ = some (.int .i64 P2))) (by kernel_rfl) ?_ (fun hHeld => ?_)
          · exact ⟨keepalloc (keepalloc BA0_3), keepalloc (keepalloc BA1_3), by simp [go_sem], by simp [go_sem], by simp [go_sem], by simp [go_sem]⟩
          refine wpAnyH_take (i := 0) (oi := { dst := some 122, op := Go.Op.move (Go.Operand.tmp 9), type := 4, pos := "more.go:66", after := #[], guard := none }) (v := ?_) rfl (by kernel_rfl) (by kernel_rfl) (by kernel_rfl) (fun _ _ _ h => h) (Or.inl ⟨by rfl, ?_⟩) (by assumption) ?_
          rotate_left 1
          · intro w_ hSw; (try dsimp only at hSw); go_simp; all_goals (with_reducible rfl)
          focus try simp only [Act.put, List.setIfInBounds_toArray, List.set_cons_zero, List.set_cons_succ]
          refine wpAnyH_take (i := 1) (oi := { dst := some 123, op := Go.Op.move (Go.Operand.tmp 122), type := 4, pos := "more.go:66", after := #[{ on := 0, ground := Go.Ground.data }], guard := none }) (v := ?_) rfl (by kernel_rfl) (by kernel_rfl) (by kernel_rfl) (fun _ _ _ h => h) (Or.inl ⟨by rfl, ?_⟩) (by assumption) ?_
          rotate_left 1
          · intro w_ hSw; (try dsimp only at hSw); go_simp; all_goals (with_reducible rfl)
          focus try simp only [Act.put, List.setIfInBounds_toArray, List.set_cons_zero, List.set_cons_succ]
          first | (refine wpAnyH_take (i := 2) (oi := { dst := some 124, op := Go.Op.move (Go.Operand.tmp 19), type := 4, pos := "more.go:66", after := #[{ on := 1, ground := Go.Ground.guard }], guard := some (1, true) }) (v := ?_) rfl (by kernel_rfl) (by kernel_rfl) (by kernel_rfl) (fun _ _ _ h => h) (Or.inl ⟨by rfl, ?_⟩) (by assumption) ?_; rotate_left 1; focus (intro w_ hSw; (try dsimp only at hSw); go_simp; all_goals (with_reducible rfl); done)) | (refine wpAnyH_take (i := 2) (oi := { dst := some 124, op := Go.Op.move (Go.Operand.tmp 19), type := 4, pos := "more.go:66", after := #[{ on := 1, ground := Go.Ground.guard }], guard := some (1, true) }) rfl (by kernel_rfl) (by kernel_rfl) (by kernel_rfl) (fun _ _ _ h => h) (Or.inr ⟨by rfl, rfl⟩) (by assumption) ?_)
          focus try simp only [Act.put, List.setIfInBounds_toArray, List.set_cons_zero, List.set_cons_succ]
          first | (refine wpAnyH_take (i := 3) (oi := { dst := some 125, op := Go.Op.fieldAddr 24 (Go.Operand.tmp 10) 0, type := 0, pos := "more.go:66", after := #[{ on := 1, ground := Go.Ground.guard }], guard := some (1, true) }) (v := ?_) rfl (by kernel_rfl) (by kernel_rfl) (by kernel_rfl) (fun _ _ _ h => h) (Or.inl ⟨by rfl, ?_⟩) (by assumption) ?_; rotate_left 1; focus (intro w_ hSw; (try dsimp only at hSw); go_simp; all_goals (with_reducible rfl); done)) | (refine wpAnyH_take (i := 3) (oi := { dst := some 125, op := Go.Op.fieldAddr 24 (Go.Operand.tmp 10) 0, type := 0, pos := "more.go:66", after := #[{ on := 1, ground := Go.Ground.guard }], guard := some (1, true) }) rfl (by kernel_rfl) (by kernel_rfl) (by kernel_rfl) (fun _ _ _ h => h) (Or.inr ⟨by rfl, rfl⟩) (by assumption) ?_)
          focus try simp only [Act.put, List.setIfInBounds_toArray, List.set_cons_zero, List.set_cons_succ]
          first | (refine wpAnyH_take (i := 4) (oi := { dst := some 126, op := Go.Op.load 2 (Go.Operand.tmp 125), type := 2, pos := "more.go:66", after := #[{ on := 3, ground := Go.Ground.data }, { on := 1, ground := Go.Ground.guard }], guard := some (1, true) }) (v := ?_) rfl (by kernel_rfl) (by kernel_rfl) (by kernel_rfl) (fun _ _ _ h => h) (Or.inl ⟨by rfl, ?_⟩) (by assumption) ?_; rotate_left 1; focus (intro w_ hSw; (try dsimp only at hSw); go_simp; all_goals (with_reducible rfl); done)) | (refine wpAnyH_take (i := 4) (oi := { dst := some 126, op := Go.Op.load 2 (Go.Operand.tmp 125), type := 2, pos := "more.go:66", after := #[{ on := 3, ground := Go.Ground.data }, { on := 1, ground := Go.Ground.guard }], guard := some (1, true) }) rfl (by kernel_rfl) (by kernel_rfl) (by kernel_rfl) (fun _ _ _ h => h) (Or.inr ⟨by rfl, rfl⟩) (by assumption) ?_)
          focus try simp only [Act.put, List.setIfInBounds_toArray, List.set_cons_zero, List.set_cons_succ]
          first | (refine wpAnyH_take (i := 5) (oi := { dst := some 127, op := Go.Op.binOp Go.BinOp.neq 2 (Go.Operand.tmp 126) (Go.Operand.const (Go.Value.int Go.IntKind.i64 0)) 2, type := 4, pos := "more.go:66", after := #[{ on := 4, ground := Go.Ground.data }, { on := 1, ground := Go.Ground.guard }], guard := some (1, true) }) (v := ?_) rfl (by kernel_rfl) (by kernel_rfl) (by kernel_rfl) (fun _ _ _ h => h) (Or.inl ⟨by rfl, ?_⟩) (by assumption) ?_; rotate_left 1; focus (intro w_ hSw; (try dsimp only at hSw); go_simp; all_goals (with_reducible rfl); done)) | (refine wpAnyH_take (i := 5) (oi := { dst := some 127, op := Go.Op.binOp Go.BinOp.neq 2 (Go.Operand.tmp 126) (Go.Operand.const (Go.Value.int Go.IntKind.i64 0)) 2, type := 4, pos := "more.go:66", after := #[{ on := 4, ground := Go.Ground.data }, { on := 1, ground := Go.Ground.guard }], guard := some (1, true) }) rfl (by kernel_rfl) (by kernel_rfl) (by kernel_rfl) (fun _ _ _ h => h) (Or.inr ⟨by rfl, rfl⟩) (by assumption) ?_)
          focus try simp only [Act.put, List.setIfInBounds_toArray, List.set_cons_zero, List.set_cons_succ]
          first | (refine wpAnyH_take (i := 6) (oi := { dst := some 128, op := Go.Op.binOp Go.BinOp.eql 4 (Go.Operand.tmp 124) (Go.Operand.tmp 127) 4, type := 4, pos := "more.go:66", after := #[{ on := 2, ground := Go.Ground.data }, { on := 5, ground := Go.Ground.data }, { on := 1, ground := Go.Ground.guard }], guard := some (1, true) }) (v := ?_) rfl (by kernel_rfl) (by kernel_rfl) (by kernel_rfl) (fun _ _ _ h => h) (Or.inl ⟨by rfl, ?_⟩) (by assumption) ?_; rotate_left 1; focus (intro w_ hSw; (try dsimp only at hSw); go_simp; all_goals (with_reducible rfl); done)) | (refine wpAnyH_take (i := 6) (oi := { dst := some 128, op := Go.Op.binOp Go.BinOp.eql 4 (Go.Operand.tmp 124) (Go.Operand.tmp 127) 4, type := 4, pos := "more.go:66", after := #[{ on := 2, ground := Go.Ground.data }, { on := 5, ground := Go.Ground.data }, { on := 1, ground := Go.Ground.guard }], guard := some (1, true) }) rfl (by kernel_rfl) (by kernel_rfl) (by kernel_rfl) (fun _ _ _ h => h) (Or.inr ⟨by rfl, rfl⟩) (by assumption) ?_)
          focus try simp only [Act.put, List.setIfInBounds_toArray, List.set_cons_zero, List.set_cons_succ]
          refine wpAnyH_take (i := 7) (oi := { dst := some 129, op := Go.Op.pick (Go.Operand.tmp 123) (Go.Operand.tmp 128) (Go.Operand.const (Go.Value.bool false)), type := 4, pos := "more.go:66", after := #[{ on := 1, ground := Go.Ground.data }, { on := 6, ground := Go.Ground.data }], guard := none }) (v := ?_) rfl (by kernel_rfl) (by kernel_rfl) (by kernel_rfl) (fun _ _ _ h => h) (Or.inl ⟨by rfl, ?_⟩) (by assumption) ?_
          rotate_left 1
          · intro w_ hSw; (try dsimp only at hSw); go_simp; all_goals (with_reducible rfl)
          focus try simp only [Act.put, List.setIfInBounds_toArray, List.set_cons_zero, List.set_cons_succ]
          refine wpAnyH_take (i := 8) (oi := { dst := some 130, op := Go.Op.move (Go.Operand.tmp 129), type := 4, pos := "more.go:66", after := #[{ on := 7, ground := Go.Ground.data }, { on := 1, ground := Go.Ground.chain }], guard := none }) (v := ?_) rfl (by kernel_rfl) (by kernel_rfl) (by kernel_rfl) (fun _ _ _ h => h) (Or.inl ⟨by rfl, ?_⟩) (by assumption) ?_
          rotate_left 1
          · intro w_ hSw; (try dsimp only at hSw); go_simp; all_goals (with_reducible rfl)
          focus try simp only [Act.put, List.setIfInBounds_toArray, List.set_cons_zero, List.set_cons_succ]
          first | (refine wpAnyH_take (i := 9) (oi := { dst := some 131, op := Go.Op.move (Go.Operand.tmp 19), type := 4, pos := "more.go:66", after := #[{ on := 8, ground := Go.Ground.guard }], guard := some (8, true) }) (v := ?_) rfl (by kernel_rfl) (by kernel_rfl) (by kernel_rfl) (fun _ _ _ h => h) (Or.inl ⟨by rfl, ?_⟩) (by assumption) ?_; rotate_left 1; focus (intro w_ hSw; (try dsimp only at hSw); go_simp; all_goals (with_reducible rfl); done)) | (refine wpAnyH_take (i := 9) (oi := { dst := some 131, op := Go.Op.move (Go.Operand.tmp 19), type := 4, pos := "more.go:66", after := #[{ on := 8, ground := Go.Ground.guard }], guard := some (8, true) }) rfl (by kernel_rfl) (by kernel_rfl) (by kernel_rfl) (fun _ _ _ h => h) (Or.inr ⟨by rfl, rfl⟩) (by assumption) ?_)
          focus try simp only [Act.put, List.setIfInBounds_toArray, List.set_cons_zero, List.set_cons_succ]
          first | (refine wpAnyH_take (i := 10) (oi := { dst := some 132, op := Go.Op.unOp Go.UnOp.not 4 (Go.Operand.tmp 131), type := 4, pos := "more.go:66", after := #[{ on := 9, ground := Go.Ground.data }, { on := 8, ground := Go.Ground.guard }], guard := some (8, true) }) (v := ?_) rfl (by kernel_rfl) (by kernel_rfl) (by kernel_rfl) (fun _ _ _ h => h) (Or.inl ⟨by rfl, ?_⟩) (by assumption) ?_; rotate_left 1; focus (intro w_ hSw; (try dsimp only at hSw); go_simp; all_goals (with_reducible rfl); done)) | (refine wpAnyH_take (i := 10) (oi := { dst := some 132, op := Go.Op.unOp Go.UnOp.not 4 (Go.Operand.tmp 131), type := 4, pos := "more.go:66", after := #[{ on := 9, ground := Go.Ground.data }, { on := 8, ground := Go.Ground.guard }], guard := some (8, true) }) rfl (by kernel_rfl) (by kernel_rfl) (by kernel_rfl) (fun _ _ _ h => h) (Or.inr ⟨by rfl, rfl⟩) (by assumption) ?_)
          focus try simp only [Act.put, List.setIfInBounds_toArray, List.set_cons_zero, List.set_cons_succ]
          first | (refine wpAnyH_take (i := 11) (oi := { dst := some 133, op := Go.Op.move (Go.Operand.tmp 132), type := 4, pos := "more.go:66", after := #[{ on := 10, ground := Go.Ground.data }, { on := 8, ground := Go.Ground.chain }, { on := 8, ground := Go.Ground.guard }], guard := some (8, true) }) (v := ?_) rfl (by kernel_rfl) (by kernel_rfl) (by kernel_rfl) (fun _ _ _ h => h) (Or.inl ⟨by rfl, ?_⟩) (by assumption) ?_; rotate_left 1; focus (intro w_ hSw; (try dsimp only at hSw); go_simp; all_goals (with_reducible rfl); done)) | (refine wpAnyH_take (i := 11) (oi := { dst := some 133, op := Go.Op.move (Go.Operand.tmp 132), type := 4, pos := "more.go:66", after := #[{ on := 10, ground := Go.Ground.data }, { on := 8, ground := Go.Ground.chain }, { on := 8, ground := Go.Ground.guard }], guard := some (8, true) }) rfl (by kernel_rfl) (by kernel_rfl) (by kernel_rfl) (fun _ _ _ h => h) (Or.inr ⟨by rfl, rfl⟩) (by assumption) ?_)
          focus try simp only [Act.put, List.setIfInBounds_toArray, List.set_cons_zero, List.set_cons_succ]
          first | (refine wpAnyH_take (i := 12) (oi := { dst := some 134, op := Go.Op.load 24 (Go.Operand.tmp 18), type := 24, pos := "more.go:66", after := #[{ on := 11, ground := Go.Ground.guard }], guard := some (11, false) }) (v := ?_) rfl (by kernel_rfl) (by kernel_rfl) (by kernel_rfl) (fun _ _ _ h => h) (Or.inl ⟨by rfl, ?_⟩) (by assumption) ?_; rotate_left 1; focus (intro w_ hSw; (try dsimp only at hSw); go_simp; all_goals (with_reducible rfl); done)) | (refine wpAnyH_take (i := 12) (oi := { dst := some 134, op := Go.Op.load 24 (Go.Operand.tmp 18), type := 24, pos := "more.go:66", after := #[{ on := 11, ground := Go.Ground.guard }], guard := some (11, false) }) rfl (by kernel_rfl) (by kernel_rfl) (by kernel_rfl) (fun _ _ _ h => h) (Or.inr ⟨by rfl, rfl⟩) (by assumption) ?_)
          focus try simp only [Act.put, List.setIfInBounds_toArray, List.set_cons_zero, List.set_cons_succ]
          refine wpAnyH_ready (rs := [13]) (by kernel_rfl) (by simp) ?_
          refine AllReadyH.cons (o := { dst := some 135, op := Go.Op.call { callee := Go.Callee.value (Go.Operand.func 18), args := #[Go.Operand.const (Go.Value.int Go.IntKind.i64 1)], argTypes := #[2] }, type := 24, pos := "more.go:66", after := #[{ on := 11, ground := Go.Ground.chain }, { on := 11, ground := Go.Ground.guard }], guard := some (11, false) }) rfl (fun K hK => ?_) (AllReadyH.nil)
          focus go_simp
          focus (refine (Whole_any _ _).mono ?_; rintro e wz ⟨rfl, hbz⟩)
          focus try simp only []
          refine hK.out _ _ ?_ (fun hHeld => ?_)
          · (have hq := hHeld; (try dsimp only at hq); obtain ⟨q0, q1, q2, q3, q4, q5⟩ := hq; exact ⟨keepcell hbz q0, keepcell hbz q1, keepcell hbz q2, keepcell hbz q3, keepcell hbz q4, keepcell hbz q5⟩)
          focus clear hK K
          focus try simp only [Act.put, List.setIfInBounds_toArray, List.set_cons_zero, List.set_cons_succ]
          first | (refine wpAnyH_take (i := 14) (oi := { dst := some 136, op := Go.Op.binOp Go.BinOp.eql 24 (Go.Operand.tmp 134) (Go.Operand.tmp 135) 24, type := 4, pos := "more.go:66", after := #[{ on := 12, ground := Go.Ground.data }, { on := 13, ground := Go.Ground.data }, { on := 11, ground := Go.Ground.guard }], guard := some (11, false) }) (v := ?_) rfl (by kernel_rfl) (by kernel_rfl) (by kernel_rfl) (fun _ _ _ h => h) (Or.inl ⟨by rfl, ?_⟩) (by assumption) ?_; rotate_left 1; focus (intro w_ hSw; (try dsimp only at hSw); go_simp; all_goals (with_reducible rfl); done)) | (refine wpAnyH_take (i := 14) (oi := { dst := some 136, op := Go.Op.binOp Go.BinOp.eql 24 (Go.Operand.tmp 134) (Go.Operand.tmp 135) 24, type := 4, pos := "more.go:66", after := #[{ on := 12, ground := Go.Ground.data }, { on := 13, ground := Go.Ground.data }, { on := 11, ground := Go.Ground.guard }], guard := some (11, false) }) rfl (by kernel_rfl) (by kernel_rfl) (by kernel_rfl) (fun _ _ _ h => h) (Or.inr ⟨by rfl, rfl⟩) (by assumption) ?_)
          focus try simp only [Act.put, List.setIfInBounds_toArray, List.set_cons_zero, List.set_cons_succ]
          first | (refine wpAnyH_take (i := 15) (oi := { dst := some 137, op := Go.Op.pick (Go.Operand.tmp 133) (Go.Operand.const (Go.Value.bool true)) (Go.Operand.tmp 136), type := 4, pos := "more.go:66", after := #[{ on := 11, ground := Go.Ground.data }, { on := 14, ground := Go.Ground.data }, { on := 8, ground := Go.Ground.guard }], guard := some (8, true) }) (v := ?_) rfl (by kernel_rfl) (by kernel_rfl) (by kernel_rfl) (fun _ _ _ h => h) (Or.inl ⟨by rfl, ?_⟩) (by assumption) ?_; rotate_left 1; focus (intro w_ hSw; (try dsimp only at hSw); go_simp; all_goals (with_reducible rfl); done)) | (refine wpAnyH_take (i := 15) (oi := { dst := some 137, op := Go.Op.pick (Go.Operand.tmp 133) (Go.Operand.const (Go.Value.bool true)) (Go.Operand.tmp 136), type := 4, pos := "more.go:66", after := #[{ on := 11, ground := Go.Ground.data }, { on := 14, ground := Go.Ground.data }, { on := 8, ground := Go.Ground.guard }], guard := some (8, true) }) rfl (by kernel_rfl) (by kernel_rfl) (by kernel_rfl) (fun _ _ _ h => h) (Or.inr ⟨by rfl, rfl⟩) (by assumption) ?_)
          focus try simp only [Act.put, List.setIfInBounds_toArray, List.set_cons_zero, List.set_cons_succ]
          refine wpAnyH_take (i := 16) (oi := { dst := some 138, op := Go.Op.pick (Go.Operand.tmp 130) (Go.Operand.tmp 137) (Go.Operand.const (Go.Value.bool false)), type := 4, pos := "more.go:66", after := #[{ on := 8, ground := Go.Ground.data }, { on := 15, ground := Go.Ground.data }], guard := none }) (v := ?_) rfl (by kernel_rfl) (by kernel_rfl) (by kernel_rfl) (fun _ _ _ h => h) (Or.inl ⟨by rfl, ?_⟩) (by assumption) ?_
          rotate_left 1
          · intro w_ hSw; (try dsimp only at hSw); go_simp; all_goals (with_reducible rfl)
          focus try simp only [Act.put, List.setIfInBounds_toArray, List.set_cons_zero, List.set_cons_succ]
          refine wpAnyH_take (i := 17) (oi := { dst := some 139, op := Go.Op.move (Go.Operand.tmp 138), type := 4, pos := "more.go:66", after := #[{ on := 16, ground := Go.Ground.data }, { on := 13, ground := Go.Ground.chain }], guard := none }) (v := ?_) rfl (by kernel_rfl) (by kernel_rfl) (by kernel_rfl) (fun _ _ _ h => h) (Or.inl ⟨by rfl, ?_⟩) (by assumption) ?_
          rotate_left 1
          · intro w_ hSw; (try dsimp only at hSw); go_simp; all_goals (with_reducible rfl)
          focus try simp only [Act.put, List.setIfInBounds_toArray, List.set_cons_zero, List.set_cons_succ]
          first | (refine wpAnyH_take (i := 18) (oi := { dst := some 140, op := Go.Op.load 24 (Go.Operand.tmp 20), type := 24, pos := "more.go:66", after := #[{ on := 17, ground := Go.Ground.guard }], guard := some (17, true) }) (v := ?_) rfl (by kernel_rfl) (by kernel_rfl) (by kernel_rfl) (fun _ _ _ h => h) (Or.inl ⟨by rfl, ?_⟩) (by assumption) ?_; rotate_left 1; focus (intro w_ hSw; (try dsimp only at hSw); go_simp; all_goals (with_reducible rfl); done)) | (refine wpAnyH_take (i := 18) (oi := { dst := some 140, op := Go.Op.load 24 (Go.Operand.tmp 20), type := 24, pos := "more.go:66", after := #[{ on := 17, ground := Go.Ground.guard }], guard := some (17, true) }) rfl (by kernel_rfl) (by kernel_rfl) (by kernel_rfl) (fun _ _ _ h => h) (Or.inr ⟨by rfl, rfl⟩) (by assumption) ?_)
          focus try simp only [Act.put, List.setIfInBounds_toArray, List.set_cons_zero, List.set_cons_succ]
          first | (refine wpAnyH_take (i := 19) (oi := { dst := some 141, op := Go.Op.load 24 (Go.Operand.tmp 10), type := 24, pos := "more.go:66", after := #[{ on := 17, ground := Go.Ground.guard }], guard := some (17, true) }) (v := ?_) rfl (by kernel_rfl) (by kernel_rfl) (by kernel_rfl) (fun _ _ _ h => h) (Or.inl ⟨by rfl, ?_⟩) (by assumption) ?_; rotate_left 1; focus (intro w_ hSw; (try dsimp only at hSw); go_simp; all_goals (with_reducible rfl); done)) | (refine wpAnyH_take (i := 19) (oi := { dst := some 141, op := Go.Op.load 24 (Go.Operand.tmp 10), type := 24, pos := "more.go:66", after := #[{ on := 17, ground := Go.Ground.guard }], guard := some (17, true) }) rfl (by kernel_rfl) (by kernel_rfl) (by kernel_rfl) (fun _ _ _ h => h) (Or.inr ⟨by rfl, rfl⟩) (by assumption) ?_)
          focus try simp only [Act.put, List.setIfInBounds_toArray, List.set_cons_zero, List.set_cons_succ]
          first | (refine wpAnyH_take (i := 20) (oi := { dst := some 142, op := Go.Op.binOp Go.BinOp.eql 24 (Go.Operand.tmp 140) (Go.Operand.tmp 141) 24, type := 4, pos := "more.go:66", after := #[{ on := 18, ground := Go.Ground.data }, { on := 19, ground := Go.Ground.data }, { on := 17, ground := Go.Ground.guard }], guard := some (17, true) }) (v := ?_) rfl (by kernel_rfl) (by kernel_rfl) (by kernel_rfl) (fun _ _ _ h => h) (Or.inl ⟨by rfl, ?_⟩) (by assumption) ?_; rotate_left 1; focus (intro w_ hSw; (try dsimp only at hSw); go_simp; all_goals (with_reducible rfl); done)) | (refine wpAnyH_take (i := 20) (oi := { dst := some 142, op := Go.Op.binOp Go.BinOp.eql 24 (Go.Operand.tmp 140) (Go.Operand.tmp 141) 24, type := 4, pos := "more.go:66", after := #[{ on := 18, ground := Go.Ground.data }, { on := 19, ground := Go.Ground.data }, { on := 17, ground := Go.Ground.guard }], guard := some (17, true) }) rfl (by kernel_rfl) (by kernel_rfl) (by kernel_rfl) (fun _ _ _ h => h) (Or.inr ⟨by rfl, rfl⟩) (by assumption) ?_)
          focus try simp only [Act.put, List.setIfInBounds_toArray, List.set_cons_zero, List.set_cons_succ]
          refine wpAnyH_take (i := 21) (oi := { dst := some 143, op := Go.Op.pick (Go.Operand.tmp 139) (Go.Operand.tmp 142) (Go.Operand.const (Go.Value.bool false)), type := 4, pos := "more.go:66", after := #[{ on := 17, ground := Go.Ground.data }, { on := 20, ground := Go.Ground.data }], guard := none }) (v := ?_) rfl (by kernel_rfl) (by kernel_rfl) (by kernel_rfl) (fun _ _ _ h => h) (Or.inl ⟨by rfl, ?_⟩) (by assumption) ?_
          rotate_left 1
          · intro w_ hSw; (try dsimp only at hSw); go_simp; all_goals (with_reducible rfl)
          focus try simp only [Act.put, List.setIfInBounds_toArray, List.set_cons_zero, List.set_cons_succ]
          refine wpAnyH_take (i := 22) (oi := { dst := some 8, op := Go.Op.assign (Go.Operand.tmp 143), type := 4, pos := "more.go:66", after := #[{ on := 21, ground := Go.Ground.data }, { on := 17, ground := Go.Ground.chain }, { on := 0, ground := Go.Ground.phase }, { on := 1, ground := Go.Ground.phase }, { on := 2, ground := Go.Ground.phase }, { on := 3, ground := Go.Ground.phase }, { on := 4, ground := Go.Ground.phase }, { on := 5, ground := Go.Ground.phase }, { on := 6, ground := Go.Ground.phase }, { on := 7, ground := Go.Ground.phase }, { on := 8, ground := Go.Ground.phase }, { on := 9, ground := Go.Ground.phase }, { on := 10, ground := Go.Ground.phase }, { on := 11, ground := Go.Ground.phase }, { on := 12, ground := Go.Ground.phase }, { on := 13, ground := Go.Ground.phase }, { on := 14, ground := Go.Ground.phase }, { on := 15, ground := Go.Ground.phase }, { on := 16, ground := Go.Ground.phase }, { on := 17, ground := Go.Ground.phase }, { on := 18, ground := Go.Ground.phase }, { on := 19, ground := Go.Ground.phase }, { on := 20, ground := Go.Ground.phase }, { on := 21, ground := Go.Ground.phase }], guard := none }) (v := ?_) rfl (by kernel_rfl) (by kernel_rfl) (by kernel_rfl) (fun _ _ _ h => h) (Or.inl ⟨by rfl, ?_⟩) (by assumption) ?_
          rotate_left 1
          · intro w_ hSw; (try dsimp only at hSw); go_simp; all_goals (with_reducible rfl)
          focus try simp only [Act.put, List.setIfInBounds_toArray, List.set_cons_zero, List.set_cons_succ]
          refine wpAnyH_done (by kernel_rfl) ?_ _
          rotate_left 1
          all_goals (
            have hbwz : Below w.heap.size w wz := by refine Below.trans ?_ (hbz.mono (by first | exact Nat.le_refl _ | (simp; done) | (simp; omega) | omega)); exact (by repeat (first | exact Below.refl _ _ | with_reducible assumption | refine Below.alloc ?_ (by first | exact Nat.le_refl _ | (simp; done) | (simp; omega) | omega) _ | refine Below.setCell ?_ (by first | exact Nat.le_refl _ | (simp; done) | (simp; omega) | omega) _ | refine Below.drew ?_ | refine bdrewN ?_ _))
            go_wp2
            go_ret
            exact ⟨rfl, (by repeat (first | exact Below.refl _ _ | with_reducible assumption | refine Below.alloc ?_ (by first | exact Nat.le_refl _ | (simp; done) | (simp; omega) | omega) _ | refine Below.setCell ?_ (by first | exact Nat.le_refl _ | (simp; done) | (simp; omega) | omega) _ | refine Below.drew ?_ | refine bdrewN ?_ _))⟩)
        · go_wp2
          go_quiet (fail)
          go_wp2
          go_ret
          exact ⟨rfl, (by repeat (first | exact Below.refl _ _ | with_reducible assumption | refine Below.alloc ?_ (by first | exact Nat.le_refl _ | (simp; done) | (simp; omega) | omega) _ | refine Below.setCell ?_ (by first | exact Nat.le_refl _ | (simp; done) | (simp; omega) | omega) _ | refine Below.drew ?_ | refine bdrewN ?_ _))⟩
      · rcases hO with ⟨rfl, rfl, rfl, hO1, hO2⟩ | ⟨rfl, rfl⟩
        · go_wp2
          refine wp_region_held_drew (S := (fun w' => w'.cell? ⟨w2.heap.size, 0, none⟩ = some (.int .i64 P1) ∧ w'.cell? ⟨w2.heap.size, 1, none⟩ = some (.int .i64 P2) ∧ w'.cell? ⟨w3.heap.size, 0, none⟩ = some (.int .i64 1) ∧ w'.cell? ⟨w3.heap.size, 1, none⟩ = some (.int .i64 1) ∧ w'.cell? ⟨w3.heap.size + 1, 0, none⟩ = some (.int .i64 P1) ∧ w'.cell? ⟨w3.heap.size + 1, 1, none⟩ = some (.int .i64 P2))) (by kernel_rfl) ?_ (fun hHeld => ?_)
          · exact ⟨keepalloc (keepalloc BA0_3), keepalloc (keepalloc BA1_3), by simp [go_sem], by simp [go_sem], by simp [go_sem], by simp [go_sem]⟩
          refine wpAnyH_take (i := 0) (oi := { dst := some 122, op := Go.Op.move (Go.Operand.tmp 9), type := 4, pos := "more.go:66", after := #[], guard := none }) (v := ?_) rfl (by kernel_rfl) (by kernel_rfl) (by kernel_rfl) (fun _ _ _ h => h) (Or.inl ⟨by rfl, ?_⟩) (by assumption) ?_
          rotate_left 1
          · intro w_ hSw; (try dsimp only at hSw); go_simp; all_goals (with_reducible rfl)
          focus try simp only [Act.put, List.setIfInBounds_toArray, List.set_cons_zero, List.set_cons_succ]
          refine wpAnyH_take (i := 1) (oi := { dst := some 123, op := Go.Op.move (Go.Operand.tmp 122), type := 4, pos := "more.go:66", after := #[{ on := 0, ground := Go.Ground.data }], guard := none }) (v := ?_) rfl (by kernel_rfl) (by kernel_rfl) (by kernel_rfl) (fun _ _ _ h => h) (Or.inl ⟨by rfl, ?_⟩) (by assumption) ?_
          rotate_left 1
          · intro w_ hSw; (try dsimp only at hSw); go_simp; all_goals (with_reducible rfl)
          focus try simp only [Act.put, List.setIfInBounds_toArray, List.set_cons_zero, List.set_cons_succ]
          first | (refine wpAnyH_take (i := 2) (oi := { dst := some 124, op := Go.Op.move (Go.Operand.tmp 19), type := 4, pos := "more.go:66", after := #[{ on := 1, ground := Go.Ground.guard }], guard := some (1, true) }) (v := ?_) rfl (by kernel_rfl) (by kernel_rfl) (by kernel_rfl) (fun _ _ _ h => h) (Or.inl ⟨by rfl, ?_⟩) (by assumption) ?_; rotate_left 1; focus (intro w_ hSw; (try dsimp only at hSw); go_simp; all_goals (with_reducible rfl); done)) | (refine wpAnyH_take (i := 2) (oi := { dst := some 124, op := Go.Op.move (Go.Operand.tmp 19), type := 4, pos := "more.go:66", after := #[{ on := 1, ground := Go.Ground.guard }], guard := some (1, true) }) rfl (by kernel_rfl) (by kernel_rfl) (by kernel_rfl) (fun _ _ _ h => h) (Or.inr ⟨by rfl, rfl⟩) (by assumption) ?_)
          focus try simp only [Act.put, List.setIfInBounds_toArray, List.set_cons_zero, List.set_cons_succ]
          first | (refine wpAnyH_take (i := 3) (oi := { dst := some 125, op := Go.Op.fieldAddr 24 (Go.Operand.tmp 10) 0, type := 0, pos := "more.go:66", after := #[{ on := 1, ground := Go.Ground.guard }], guard := some (1, true) }) (v := ?_) rfl (by kernel_rfl) (by kernel_rfl) (by kernel_rfl) (fun _ _ _ h => h) (Or.inl ⟨by rfl, ?_⟩) (by assumption) ?_; rotate_left 1; focus (intro w_ hSw; (try dsimp only at hSw); go_simp; all_goals (with_reducible rfl); done)) | (refine wpAnyH_take (i := 3) (oi := { dst := some 125, op := Go.Op.fieldAddr 24 (Go.Operand.tmp 10) 0, type := 0, pos := "more.go:66", after := #[{ on := 1, ground := Go.Ground.guard }], guard := some (1, true) }) rfl (by kernel_rfl) (by kernel_rfl) (by kernel_rfl) (fun _ _ _ h => h) (Or.inr ⟨by rfl, rfl⟩) (by assumption) ?_)
          focus try simp only [Act.put, List.setIfInBounds_toArray, List.set_cons_zero, List.set_cons_succ]
          first | (refine wpAnyH_take (i := 4) (oi := { dst := some 126, op := Go.Op.load 2 (Go.Operand.tmp 125), type := 2, pos := "more.go:66", after := #[{ on := 3, ground := Go.Ground.data }, { on := 1, ground := Go.Ground.guard }], guard := some (1, true) }) (v := ?_) rfl (by kernel_rfl) (by kernel_rfl) (by kernel_rfl) (fun _ _ _ h => h) (Or.inl ⟨by rfl, ?_⟩) (by assumption) ?_; rotate_left 1; focus (intro w_ hSw; (try dsimp only at hSw); go_simp; all_goals (with_reducible rfl); done)) | (refine wpAnyH_take (i := 4) (oi := { dst := some 126, op := Go.Op.load 2 (Go.Operand.tmp 125), type := 2, pos := "more.go:66", after := #[{ on := 3, ground := Go.Ground.data }, { on := 1, ground := Go.Ground.guard }], guard := some (1, true) }) rfl (by kernel_rfl) (by kernel_rfl) (by kernel_rfl) (fun _ _ _ h => h) (Or.inr ⟨by rfl, rfl⟩) (by assumption) ?_)
          focus try simp only [Act.put, List.setIfInBounds_toArray, List.set_cons_zero, List.set_cons_succ]
          first | (refine wpAnyH_take (i := 5) (oi := { dst := some 127, op := Go.Op.binOp Go.BinOp.neq 2 (Go.Operand.tmp 126) (Go.Operand.const (Go.Value.int Go.IntKind.i64 0)) 2, type := 4, pos := "more.go:66", after := #[{ on := 4, ground := Go.Ground.data }, { on := 1, ground := Go.Ground.guard }], guard := some (1, true) }) (v := ?_) rfl (by kernel_rfl) (by kernel_rfl) (by kernel_rfl) (fun _ _ _ h => h) (Or.inl ⟨by rfl, ?_⟩) (by assumption) ?_; rotate_left 1; focus (intro w_ hSw; (try dsimp only at hSw); go_simp; all_goals (with_reducible rfl); done)) | (refine wpAnyH_take (i := 5) (oi := { dst := some 127, op := Go.Op.binOp Go.BinOp.neq 2 (Go.Operand.tmp 126) (Go.Operand.const (Go.Value.int Go.IntKind.i64 0)) 2, type := 4, pos := "more.go:66", after := #[{ on := 4, ground := Go.Ground.data }, { on := 1, ground := Go.Ground.guard }], guard := some (1, true) }) rfl (by kernel_rfl) (by kernel_rfl) (by kernel_rfl) (fun _ _ _ h => h) (Or.inr ⟨by rfl, rfl⟩) (by assumption) ?_)
          focus try simp only [Act.put, List.setIfInBounds_toArray, List.set_cons_zero, List.set_cons_succ]
          first | (refine wpAnyH_take (i := 6) (oi := { dst := some 128, op := Go.Op.binOp Go.BinOp.eql 4 (Go.Operand.tmp 124) (Go.Operand.tmp 127) 4, type := 4, pos := "more.go:66", after := #[{ on := 2, ground := Go.Ground.data }, { on := 5, ground := Go.Ground.data }, { on := 1, ground := Go.Ground.guard }], guard := some (1, true) }) (v := ?_) rfl (by kernel_rfl) (by kernel_rfl) (by kernel_rfl) (fun _ _ _ h => h) (Or.inl ⟨by rfl, ?_⟩) (by assumption) ?_; rotate_left 1; focus (intro w_ hSw; (try dsimp only at hSw); go_simp; all_goals (with_reducible rfl); done)) | (refine wpAnyH_take (i := 6) (oi := { dst := some 128, op := Go.Op.binOp Go.BinOp.eql 4 (Go.Operand.tmp 124) (Go.Operand.tmp 127) 4, type := 4, pos := "more.go:66", after := #[{ on := 2, ground := Go.Ground.data }, { on := 5, ground := Go.Ground.data }, { on := 1, ground := Go.Ground.guard }], guard := some (1, true) }) rfl (by kernel_rfl) (by kernel_rfl) (by kernel_rfl) (fun _ _ _ h => h) (Or.inr ⟨by rfl, rfl⟩) (by assumption) ?_)
          focus try simp only [Act.put, List.setIfInBounds_toArray, List.set_cons_zero, List.set_cons_succ]
          refine wpAnyH_take (i := 7) (oi := { dst := some 129, op := Go.Op.pick (Go.Operand.tmp 123) (Go.Operand.tmp 128) (Go.Operand.const (Go.Value.bool false)), type := 4, pos := "more.go:66", after := #[{ on := 1, ground := Go.Ground.data }, { on := 6, ground := Go.Ground.data }], guard := none }) (v := ?_) rfl (by kernel_rfl) (by kernel_rfl) (by kernel_rfl) (fun _ _ _ h => h) (Or.inl ⟨by rfl, ?_⟩) (by assumption) ?_
          rotate_left 1
          · intro w_ hSw; (try dsimp only at hSw); go_simp; all_goals (with_reducible rfl)
          focus try simp only [Act.put, List.setIfInBounds_toArray, List.set_cons_zero, List.set_cons_succ]
          refine wpAnyH_take (i := 8) (oi := { dst := some 130, op := Go.Op.move (Go.Operand.tmp 129), type := 4, pos := "more.go:66", after := #[{ on := 7, ground := Go.Ground.data }, { on := 1, ground := Go.Ground.chain }], guard := none }) (v := ?_) rfl (by kernel_rfl) (by kernel_rfl) (by kernel_rfl) (fun _ _ _ h => h) (Or.inl ⟨by rfl, ?_⟩) (by assumption) ?_
          rotate_left 1
          · intro w_ hSw; (try dsimp only at hSw); go_simp; all_goals (with_reducible rfl)
          focus try simp only [Act.put, List.setIfInBounds_toArray, List.set_cons_zero, List.set_cons_succ]
          first | (refine wpAnyH_take (i := 9) (oi := { dst := some 131, op := Go.Op.move (Go.Operand.tmp 19), type := 4, pos := "more.go:66", after := #[{ on := 8, ground := Go.Ground.guard }], guard := some (8, true) }) (v := ?_) rfl (by kernel_rfl) (by kernel_rfl) (by kernel_rfl) (fun _ _ _ h => h) (Or.inl ⟨by rfl, ?_⟩) (by assumption) ?_; rotate_left 1; focus (intro w_ hSw; (try dsimp only at hSw); go_simp; all_goals (with_reducible rfl); done)) | (refine wpAnyH_take (i := 9) (oi := { dst := some 131, op := Go.Op.move (Go.Operand.tmp 19), type := 4, pos := "more.go:66", after := #[{ on := 8, ground := Go.Ground.guard }], guard := some (8, true) }) rfl (by kernel_rfl) (by kernel_rfl) (by kernel_rfl) (fun _ _ _ h => h) (Or.inr ⟨by rfl, rfl⟩) (by assumption) ?_)
          focus try simp only [Act.put, List.setIfInBounds_toArray, List.set_cons_zero, List.set_cons_succ]
          first | (refine wpAnyH_take (i := 10) (oi := { dst := some 132, op := Go.Op.unOp Go.UnOp.not 4 (Go.Operand.tmp 131), type := 4, pos := "more.go:66", after := #[{ on := 9, ground := Go.Ground.data }, { on := 8, ground := Go.Ground.guard }], guard := some (8, true) }) (v := ?_) rfl (by kernel_rfl) (by kernel_rfl) (by kernel_rfl) (fun _ _ _ h => h) (Or.inl ⟨by rfl, ?_⟩) (by assumption) ?_; rotate_left 1; focus (intro w_ hSw; (try dsimp only at hSw); go_simp; all_goals (with_reducible rfl); done)) | (refine wpAnyH_take (i := 10) (oi := { dst := some 132, op := Go.Op.unOp Go.UnOp.not 4 (Go.Operand.tmp 131), type := 4, pos := "more.go:66", after := #[{ on := 9, ground := Go.Ground.data }, { on := 8, ground := Go.Ground.guard }], guard := some (8, true) }) rfl (by kernel_rfl) (by kernel_rfl) (by kernel_rfl) (fun _ _ _ h => h) (Or.inr ⟨by rfl, rfl⟩) (by assumption) ?_)
          focus try simp only [Act.put, List.setIfInBounds_toArray, List.set_cons_zero, List.set_cons_succ]
          first | (refine wpAnyH_take (i := 11) (oi := { dst := some 133, op := Go.Op.move (Go.Operand.tmp 132), type := 4, pos := "more.go:66", after := #[{ on := 10, ground := Go.Ground.data }, { on := 8, ground := Go.Ground.chain }, { on := 8, ground := Go.Ground.guard }], guard := some (8, true) }) (v := ?_) rfl (by kernel_rfl) (by kernel_rfl) (by kernel_rfl) (fun _ _ _ h => h) (Or.inl ⟨by rfl, ?_⟩) (by assumption) ?_; rotate_left 1; focus (intro w_ hSw; (try dsimp only at hSw); go_simp; all_goals (with_reducible rfl); done)) | (refine wpAnyH_take (i := 11) (oi := { dst := some 133, op := Go.Op.move (Go.Operand.tmp 132), type := 4, pos := "more.go:66", after := #[{ on := 10, ground := Go.Ground.data }, { on := 8, ground := Go.Ground.chain }, { on := 8, ground := Go.Ground.guard }], guard := some (8, true) }) rfl (by kernel_rfl) (by kernel_rfl) (by kernel_rfl) (fun _ _ _ h => h) (Or.inr ⟨by rfl, rfl⟩) (by assumption) ?_)
          focus try simp only [Act.put, List.setIfInBounds_toArray, List.set_cons_zero, List.set_cons_succ]
          first | (refine wpAnyH_take (i := 12) (oi := { dst := some 134, op := Go.Op.load 24 (Go.Operand.tmp 18), type := 24, pos := "more.go:66", after := #[{ on := 11, ground := Go.Ground.guard }], guard := some (11, false) }) (v := ?_) rfl (by kernel_rfl) (by kernel_rfl) (by kernel_rfl) (fun _ _ _ h => h) (Or.inl ⟨by rfl, ?_⟩) (by assumption) ?_; rotate_left 1; focus (intro w_ hSw; (try dsimp only at hSw); go_simp; all_goals (with_reducible rfl); done)) | (refine wpAnyH_take (i := 12) (oi := { dst := some 134, op := Go.Op.load 24 (Go.Operand.tmp 18), type := 24, pos := "more.go:66", after := #[{ on := 11, ground := Go.Ground.guard }], guard := some (11, false) }) rfl (by kernel_rfl) (by kernel_rfl) (by kernel_rfl) (fun _ _ _ h => h) (Or.inr ⟨by rfl, rfl⟩) (by assumption) ?_)
          focus try simp only [Act.put, List.setIfInBounds_toArray, List.set_cons_zero, List.set_cons_succ]
          refine wpAnyH_ready (rs := [13]) (by kernel_rfl) (by simp) ?_
          refine AllReadyH.cons (o := { dst := some 135, op := Go.Op.call { callee := Go.Callee.value (Go.Operand.func 18), args := #[Go.Operand.const (Go.Value.int Go.IntKind.i64 1)], argTypes := #[2] }, type := 24, pos := "more.go:66", after := #[{ on := 11, ground := Go.Ground.chain }, { on := 11, ground := Go.Ground.guard }], guard := some (11, false) }) rfl (fun K hK => ?_) (AllReadyH.nil)
          focus go_simp
          focus (refine (Whole_any _ _).mono ?_; rintro e wz ⟨rfl, hbz⟩)
          focus try simp only []
          refine hK.out _ _ ?_ (fun hHeld => ?_)
          · (have hq := hHeld; (try dsimp only at hq); obtain ⟨q0, q1, q2, q3, q4, q5⟩ := hq; exact ⟨keepcell hbz q0, keepcell hbz q1, keepcell hbz q2, keepcell hbz q3, keepcell hbz q4, keepcell hbz q5⟩)
          focus clear hK K
          focus try simp only [Act.put, List.setIfInBounds_toArray, List.set_cons_zero, List.set_cons_succ]
          first | (refine wpAnyH_take (i := 14) (oi := { dst := some 136, op := Go.Op.binOp Go.BinOp.eql 24 (Go.Operand.tmp 134) (Go.Operand.tmp 135) 24, type := 4, pos := "more.go:66", after := #[{ on := 12, ground := Go.Ground.data }, { on := 13, ground := Go.Ground.data }, { on := 11, ground := Go.Ground.guard }], guard := some (11, false) }) (v := ?_) rfl (by kernel_rfl) (by kernel_rfl) (by kernel_rfl) (fun _ _ _ h => h) (Or.inl ⟨by rfl, ?_⟩) (by assumption) ?_; rotate_left 1; focus (intro w_ hSw; (try dsimp only at hSw); go_simp; all_goals (with_reducible rfl); done)) | (refine wpAnyH_take (i := 14) (oi := { dst := some 136, op := Go.Op.binOp Go.BinOp.eql 24 (Go.Operand.tmp 134) (Go.Operand.tmp 135) 24, type := 4, pos := "more.go:66", after := #[{ on := 12, ground := Go.Ground.data }, { on := 13, ground := Go.Ground.data }, { on := 11, ground := Go.Ground.guard }], guard := some (11, false) }) rfl (by kernel_rfl) (by kernel_rfl) (by kernel_rfl) (fun _ _ _ h => h) (Or.inr ⟨by rfl, rfl⟩) (by assumption) ?_)
          focus try simp only [Act.put, List.setIfInBounds_toArray, List.set_cons_zero, List.set_cons_succ]
          first | (refine wpAnyH_take (i := 15) (oi := { dst := some 137, op := Go.Op.pick (Go.Operand.tmp 133) (Go.Operand.const (Go.Value.bool true)) (Go.Operand.tmp 136), type := 4, pos := "more.go:66", after := #[{ on := 11, ground := Go.Ground.data }, { on := 14, ground := Go.Ground.data }, { on := 8, ground := Go.Ground.guard }], guard := some (8, true) }) (v := ?_) rfl (by kernel_rfl) (by kernel_rfl) (by kernel_rfl) (fun _ _ _ h => h) (Or.inl ⟨by rfl, ?_⟩) (by assumption) ?_; rotate_left 1; focus (intro w_ hSw; (try dsimp only at hSw); go_simp; all_goals (with_reducible rfl); done)) | (refine wpAnyH_take (i := 15) (oi := { dst := some 137, op := Go.Op.pick (Go.Operand.tmp 133) (Go.Operand.const (Go.Value.bool true)) (Go.Operand.tmp 136), type := 4, pos := "more.go:66", after := #[{ on := 11, ground := Go.Ground.data }, { on := 14, ground := Go.Ground.data }, { on := 8, ground := Go.Ground.guard }], guard := some (8, true) }) rfl (by kernel_rfl) (by kernel_rfl) (by kernel_rfl) (fun _ _ _ h => h) (Or.inr ⟨by rfl, rfl⟩) (by assumption) ?_)
          focus try simp only [Act.put, List.setIfInBounds_toArray, List.set_cons_zero, List.set_cons_succ]
          refine wpAnyH_take (i := 16) (oi := { dst := some 138, op := Go.Op.pick (Go.Operand.tmp 130) (Go.Operand.tmp 137) (Go.Operand.const (Go.Value.bool false)), type := 4, pos := "more.go:66", after := #[{ on := 8, ground := Go.Ground.data }, { on := 15, ground := Go.Ground.data }], guard := none }) (v := ?_) rfl (by kernel_rfl) (by kernel_rfl) (by kernel_rfl) (fun _ _ _ h => h) (Or.inl ⟨by rfl, ?_⟩) (by assumption) ?_
          rotate_left 1
          · intro w_ hSw; (try dsimp only at hSw); go_simp; all_goals (with_reducible rfl)
          focus try simp only [Act.put, List.setIfInBounds_toArray, List.set_cons_zero, List.set_cons_succ]
          refine wpAnyH_take (i := 17) (oi := { dst := some 139, op := Go.Op.move (Go.Operand.tmp 138), type := 4, pos := "more.go:66", after := #[{ on := 16, ground := Go.Ground.data }, { on := 13, ground := Go.Ground.chain }], guard := none }) (v := ?_) rfl (by kernel_rfl) (by kernel_rfl) (by kernel_rfl) (fun _ _ _ h => h) (Or.inl ⟨by rfl, ?_⟩) (by assumption) ?_
          rotate_left 1
          · intro w_ hSw; (try dsimp only at hSw); go_simp; all_goals (with_reducible rfl)
          focus try simp only [Act.put, List.setIfInBounds_toArray, List.set_cons_zero, List.set_cons_succ]
          first | (refine wpAnyH_take (i := 18) (oi := { dst := some 140, op := Go.Op.load 24 (Go.Operand.tmp 20), type := 24, pos := "more.go:66", after := #[{ on := 17, ground := Go.Ground.guard }], guard := some (17, true) }) (v := ?_) rfl (by kernel_rfl) (by kernel_rfl) (by kernel_rfl) (fun _ _ _ h => h) (Or.inl ⟨by rfl, ?_⟩) (by assumption) ?_; rotate_left 1; focus (intro w_ hSw; (try dsimp only at hSw); go_simp; all_goals (with_reducible rfl); done)) | (refine wpAnyH_take (i := 18) (oi := { dst := some 140, op := Go.Op.load 24 (Go.Operand.tmp 20), type := 24, pos := "more.go:66", after := #[{ on := 17, ground := Go.Ground.guard }], guard := some (17, true) }) rfl (by kernel_rfl) (by kernel_rfl) (by kernel_rfl) (fun _ _ _ h => h) (Or.inr ⟨by rfl, rfl⟩) (by assumption) ?_)
          focus try simp only [Act.put, List.setIfInBounds_toArray, List.set_cons_zero, List.set_cons_succ]
          first | (refine wpAnyH_take (i := 19) (oi := { dst := some 141, op := Go.Op.load 24 (Go.Operand.tmp 10), type := 24, pos := "more.go:66", after := #[{ on := 17, ground := Go.Ground.guard }], guard := some (17, true) }) (v := ?_) rfl (by kernel_rfl) (by kernel_rfl) (by kernel_rfl) (fun _ _ _ h => h) (Or.inl ⟨by rfl, ?_⟩) (by assumption) ?_; rotate_left 1; focus (intro w_ hSw; (try dsimp only at hSw); go_simp; all_goals (with_reducible rfl); done)) | (refine wpAnyH_take (i := 19) (oi := { dst := some 141, op := Go.Op.load 24 (Go.Operand.tmp 10), type := 24, pos := "more.go:66", after := #[{ on := 17, ground := Go.Ground.guard }], guard := some (17, true) }) rfl (by kernel_rfl) (by kernel_rfl) (by kernel_rfl) (fun _ _ _ h => h) (Or.inr ⟨by rfl, rfl⟩) (by assumption) ?_)
          focus try simp only [Act.put, List.setIfInBounds_toArray, List.set_cons_zero, List.set_cons_succ]
          first | (refine wpAnyH_take (i := 20) (oi := { dst := some 142, op := Go.Op.binOp Go.BinOp.eql 24 (Go.Operand.tmp 140) (Go.Operand.tmp 141) 24, type := 4, pos := "more.go:66", after := #[{ on := 18, ground := Go.Ground.data }, { on := 19, ground := Go.Ground.data }, { on := 17, ground := Go.Ground.guard }], guard := some (17, true) }) (v := ?_) rfl (by kernel_rfl) (by kernel_rfl) (by kernel_rfl) (fun _ _ _ h => h) (Or.inl ⟨by rfl, ?_⟩) (by assumption) ?_; rotate_left 1; focus (intro w_ hSw; (try dsimp only at hSw); go_simp; all_goals (with_reducible rfl); done)) | (refine wpAnyH_take (i := 20) (oi := { dst := some 142, op := Go.Op.binOp Go.BinOp.eql 24 (Go.Operand.tmp 140) (Go.Operand.tmp 141) 24, type := 4, pos := "more.go:66", after := #[{ on := 18, ground := Go.Ground.data }, { on := 19, ground := Go.Ground.data }, { on := 17, ground := Go.Ground.guard }], guard := some (17, true) }) rfl (by kernel_rfl) (by kernel_rfl) (by kernel_rfl) (fun _ _ _ h => h) (Or.inr ⟨by rfl, rfl⟩) (by assumption) ?_)
          focus try simp only [Act.put, List.setIfInBounds_toArray, List.set_cons_zero, List.set_cons_succ]
          refine wpAnyH_take (i := 21) (oi := { dst := some 143, op := Go.Op.pick (Go.Operand.tmp 139) (Go.Operand.tmp 142) (Go.Operand.const (Go.Value.bool false)), type := 4, pos := "more.go:66", after := #[{ on := 17, ground := Go.Ground.data }, { on := 20, ground := Go.Ground.data }], guard := none }) (v := ?_) rfl (by kernel_rfl) (by kernel_rfl) (by kernel_rfl) (fun _ _ _ h => h) (Or.inl ⟨by rfl, ?_⟩) (by assumption) ?_
          rotate_left 1
          · intro w_ hSw; (try dsimp only at hSw); go_simp; all_goals (with_reducible rfl)
          focus try simp only [Act.put, List.setIfInBounds_toArray, List.set_cons_zero, List.set_cons_succ]
          refine wpAnyH_take (i := 22) (oi := { dst := some 8, op := Go.Op.assign (Go.Operand.tmp 143), type := 4, pos := "more.go:66", after := #[{ on := 21, ground := Go.Ground.data }, { on := 17, ground := Go.Ground.chain }, { on := 0, ground := Go.Ground.phase }, { on := 1, ground := Go.Ground.phase }, { on := 2, ground := Go.Ground.phase }, { on := 3, ground := Go.Ground.phase }, { on := 4, ground := Go.Ground.phase }, { on := 5, ground := Go.Ground.phase }, { on := 6, ground := Go.Ground.phase }, { on := 7, ground := Go.Ground.phase }, { on := 8, ground := Go.Ground.phase }, { on := 9, ground := Go.Ground.phase }, { on := 10, ground := Go.Ground.phase }, { on := 11, ground := Go.Ground.phase }, { on := 12, ground := Go.Ground.phase }, { on := 13, ground := Go.Ground.phase }, { on := 14, ground := Go.Ground.phase }, { on := 15, ground := Go.Ground.phase }, { on := 16, ground := Go.Ground.phase }, { on := 17, ground := Go.Ground.phase }, { on := 18, ground := Go.Ground.phase }, { on := 19, ground := Go.Ground.phase }, { on := 20, ground := Go.Ground.phase }, { on := 21, ground := Go.Ground.phase }], guard := none }) (v := ?_) rfl (by kernel_rfl) (by kernel_rfl) (by kernel_rfl) (fun _ _ _ h => h) (Or.inl ⟨by rfl, ?_⟩) (by assumption) ?_
          rotate_left 1
          · intro w_ hSw; (try dsimp only at hSw); go_simp; all_goals (with_reducible rfl)
          focus try simp only [Act.put, List.setIfInBounds_toArray, List.set_cons_zero, List.set_cons_succ]
          refine wpAnyH_done (by kernel_rfl) ?_ _
          rotate_left 1
          all_goals (
            have hbwz : Below w.heap.size w wz := by refine Below.trans ?_ (hbz.mono (by first | exact Nat.le_refl _ | (simp; done) | (simp; omega) | omega)); exact (by repeat (first | exact Below.refl _ _ | with_reducible assumption | refine Below.alloc ?_ (by first | exact Nat.le_refl _ | (simp; done) | (simp; omega) | omega) _ | refine Below.setCell ?_ (by first | exact Nat.le_refl _ | (simp; done) | (simp; omega) | omega) _ | refine Below.drew ?_ | refine bdrewN ?_ _))
            go_wp2
            go_ret
            exact ⟨rfl, (by repeat (first | exact Below.refl _ _ | with_reducible assumption | refine Below.alloc ?_ (by first | exact Nat.le_refl _ | (simp; done) | (simp; omega) | omega) _ | refine Below.setCell ?_ (by first | exact Nat.le_refl _ | (simp; done) | (simp; omega) | omega) _ | refine Below.drew ?_ | refine bdrewN ?_ _))⟩)
        · go_wp2
          go_quiet (fail)
          go_wp2
          go_ret
          exact ⟨rfl, (by repeat (first | exact Below.refl _ _ | with_reducible assumption | refine Below.alloc ?_ (by first | exact Nat.le_refl _ | (simp; done) | (simp; omega) | omega) _ | refine Below.setCell ?_ (by first | exact Nat.le_refl _ | (simp; done) | (simp; omega) | omega) _ | refine Below.drew ?_ | refine bdrewN ?_ _))⟩
      · go_wp2_with fail
        refine (kN _).mono ?_
        rintro e w4 ⟨rfl, hb4⟩
        have hbw4 : Below w.heap.size w w4 := by refine Below.trans ?_ (hb4.mono (by first | exact Nat.le_refl _ | (simp; done) | (simp; omega) | omega)); exact (by repeat (first | exact Below.refl _ _ | with_reducible assumption | refine Below.alloc ?_ (by first | exact Nat.le_refl _ | (simp; done) | (simp; omega) | omega) _ | refine Below.setCell ?_ (by first | exact Nat.le_refl _ | (simp; done) | (simp; omega) | omega) _ | refine Below.drew ?_ | refine bdrewN ?_ _))
        have hz4 := hbw4.size
        have BA0_4 : w4.cell? ⟨w2.heap.size, 0, none⟩ = some (.int .i64 P1) := keepcell hb4 (by first | exact BA0_3 | exact keepalloc BA0_3 | exact keepalloc (keepalloc BA0_3) | exact keepset (by omega) BA0_3 | (simp [go_sem, BA0_3, Nat.ne_of_lt, Nat.ne_of_gt]; done))
        have BA1_4 : w4.cell? ⟨w2.heap.size, 1, none⟩ = some (.int .i64 P2) := keepcell hb4 (by first | exact BA1_3 | exact keepalloc BA1_3 | exact keepalloc (keepalloc BA1_3) | exact keepset (by omega) BA1_3 | (simp [go_sem, BA1_3, Nat.ne_of_lt, Nat.ne_of_gt]; done))
        have BAz_4 : w2.heap.size < w4.heap.size := cell_lt BA0_4
        have BO0_4 : w4.cell? ⟨w3.heap.size, 0, none⟩ = some (.int .i64 o1) := keepcell hb4 (by simp [go_sem]; done)
        have BO1_4 : w4.cell? ⟨w3.heap.size, 1, none⟩ = some (.int .i64 o2) := keepcell hb4 (by simp [go_sem]; done)
        have BOz_4 : w3.heap.size < w4.heap.size := cell_lt BO0_4
        have BT0_4 : w4.cell? ⟨w3.heap.size + 1, 0, none⟩ = some (.int .i64 P1) := keepcell hb4 (by simp [go_sem]; done)
        have BT1_4 : w4.cell? ⟨w3.heap.size + 1, 1, none⟩ = some (.int .i64 P2) := keepcell hb4 (by simp [go_sem]; done)
        have BTf0_4 : w4.frozen? ⟨w3.heap.size + 1, 0, none⟩ = false := keepfroz hb4 (by first | (simp; done) | (simp; omega)) (by simp [go_sem]; done)
        have BTf1_4 : w4.frozen? ⟨w3.heap.size + 1, 1, none⟩ = false := keepfroz hb4 (by first | (simp; done) | (simp; omega)) (by simp [go_sem]; done)
        have BTz_4 : w3.heap.size + 1 < w4.heap.size := cell_lt BT0_4
        rcases hO with ⟨rfl, rfl, rfl, hO1, hO2⟩ | ⟨rfl, rfl⟩
        · go_wp2
          refine wp_region_held_drew (S := (fun w' => w'.cell? ⟨w2.heap.size, 0, none⟩ = some (.int .i64 P1) ∧ w'.cell? ⟨w2.heap.size, 1, none⟩ = some (.int .i64 P2) ∧ w'.cell? ⟨w3.heap.size, 0, none⟩ = some (.int .i64 1) ∧ w'.cell? ⟨w3.heap.size, 1, none⟩ = some (.int .i64 1) ∧ w'.cell? ⟨w3.heap.size + 1, 0, none⟩ = some (.int .i64 P1) ∧ w'.cell? ⟨w3.heap.size + 1, 1, none⟩ = some (.int .i64 P2))) (by kernel_rfl) ?_ (fun hHeld => ?_)
          · exact ⟨keepset (by omega) (keepset (by omega) BA0_4), keepset (by omega) (keepset (by omega) BA1_4), keepset (by omega) (keepset (by omega) BO0_4), keepset (by omega) (keepset (by omega) BO1_4), by simp [go_sem, BT0_4, BT1_4], by simp [go_sem, BT0_4, BT1_4]⟩
          refine wpAnyH_take (i := 0) (oi := { dst := some 122, op := Go.Op.move (Go.Operand.tmp 9), type := 4, pos := "more.go:66", after := #[], guard := none }) (v := ?_) rfl (by kernel_rfl) (by kernel_rfl) (by kernel_rfl) (fun _ _ _ h => h) (Or.inl ⟨by rfl, ?_⟩) (by assumption) ?_
          rotate_left 1
          · intro w_ hSw; (try dsimp only at hSw); go_simp; all_goals (with_reducible rfl)
          focus try simp only [Act.put, List.setIfInBounds_toArray, List.set_cons_zero, List.set_cons_succ]
          refine wpAnyH_take (i := 1) (oi := { dst := some 123, op := Go.Op.move (Go.Operand.tmp 122), type := 4, pos := "more.go:66", after := #[{ on := 0, ground := Go.Ground.data }], guard := none }) (v := ?_) rfl (by kernel_rfl) (by kernel_rfl) (by kernel_rfl) (fun _ _ _ h => h) (Or.inl ⟨by rfl, ?_⟩) (by assumption) ?_
          rotate_left 1
          · intro w_ hSw; (try dsimp only at hSw); go_simp; all_goals (with_reducible rfl)
          focus try simp only [Act.put, List.setIfInBounds_toArray, List.set_cons_zero, List.set_cons_succ]
          first | (refine wpAnyH_take (i := 2) (oi := { dst := some 124, op := Go.Op.move (Go.Operand.tmp 19), type := 4, pos := "more.go:66", after := #[{ on := 1, ground := Go.Ground.guard }], guard := some (1, true) }) (v := ?_) rfl (by kernel_rfl) (by kernel_rfl) (by kernel_rfl) (fun _ _ _ h => h) (Or.inl ⟨by rfl, ?_⟩) (by assumption) ?_; rotate_left 1; focus (intro w_ hSw; (try dsimp only at hSw); go_simp; all_goals (with_reducible rfl); done)) | (refine wpAnyH_take (i := 2) (oi := { dst := some 124, op := Go.Op.move (Go.Operand.tmp 19), type := 4, pos := "more.go:66", after := #[{ on := 1, ground := Go.Ground.guard }], guard := some (1, true) }) rfl (by kernel_rfl) (by kernel_rfl) (by kernel_rfl) (fun _ _ _ h => h) (Or.inr ⟨by rfl, rfl⟩) (by assumption) ?_)
          focus try simp only [Act.put, List.setIfInBounds_toArray, List.set_cons_zero, List.set_cons_succ]
          first | (refine wpAnyH_take (i := 3) (oi := { dst := some 125, op := Go.Op.fieldAddr 24 (Go.Operand.tmp 10) 0, type := 0, pos := "more.go:66", after := #[{ on := 1, ground := Go.Ground.guard }], guard := some (1, true) }) (v := ?_) rfl (by kernel_rfl) (by kernel_rfl) (by kernel_rfl) (fun _ _ _ h => h) (Or.inl ⟨by rfl, ?_⟩) (by assumption) ?_; rotate_left 1; focus (intro w_ hSw; (try dsimp only at hSw); go_simp; all_goals (with_reducible rfl); done)) | (refine wpAnyH_take (i := 3) (oi := { dst := some 125, op := Go.Op.fieldAddr 24 (Go.Operand.tmp 10) 0, type := 0, pos := "more.go:66", after := #[{ on := 1, ground := Go.Ground.guard }], guard := some (1, true) }) rfl (by kernel_rfl) (by kernel_rfl) (by kernel_rfl) (fun _ _ _ h => h) (Or.inr ⟨by rfl, rfl⟩) (by assumption) ?_)
          focus try simp only [Act.put, List.setIfInBounds_toArray, List.set_cons_zero, List.set_cons_succ]
          first | (refine wpAnyH_take (i := 4) (oi := { dst := some 126, op := Go.Op.load 2 (Go.Operand.tmp 125), type := 2, pos := "more.go:66", after := #[{ on := 3, ground := Go.Ground.data }, { on := 1, ground := Go.Ground.guard }], guard := some (1, true) }) (v := ?_) rfl (by kernel_rfl) (by kernel_rfl) (by kernel_rfl) (fun _ _ _ h => h) (Or.inl ⟨by rfl, ?_⟩) (by assumption) ?_; rotate_left 1; focus (intro w_ hSw; (try dsimp only at hSw); go_simp; all_goals (with_reducible rfl); done)) | (refine wpAnyH_take (i := 4) (oi := { dst := some 126, op := Go.Op.load 2 (Go.Operand.tmp 125), type := 2, pos := "more.go:66", after := #[{ on := 3, ground := Go.Ground.data }, { on := 1, ground := Go.Ground.guard }], guard := some (1, true) }) rfl (by kernel_rfl) (by kernel_rfl) (by kernel_rfl) (fun _ _ _ h => h) (Or.inr ⟨by rfl, rfl⟩) (by assumption) ?_)
          focus try simp only [Act.put, List.setIfInBounds_toArray, List.set_cons_zero, List.set_cons_succ]
          first | (refine wpAnyH_take (i := 5) (oi := { dst := some 127, op := Go.Op.binOp Go.BinOp.neq 2 (Go.Operand.tmp 126) (Go.Operand.const (Go.Value.int Go.IntKind.i64 0)) 2, type := 4, pos := "more.go:66", after := #[{ on := 4, ground := Go.Ground.data }, { on := 1, ground := Go.Ground.guard }], guard := some (1, true) }) (v := ?_) rfl (by kernel_rfl) (by kernel_rfl) (by kernel_rfl) (fun _ _ _ h => h) (Or.inl ⟨by rfl, ?_⟩) (by assumption) ?_; rotate_left 1; focus (intro w_ hSw; (try dsimp only at hSw); go_simp; all_goals (with_reducible rfl); done)) | (refine wpAnyH_take (i := 5) (oi := { dst := some 127, op := Go.Op.binOp Go.BinOp.neq 2 (Go.Operand.tmp 126) (Go.Operand.const (Go.Value.int Go.IntKind.i64 0)) 2, type := 4, pos := "more.go:66", after := #[{ on := 4, ground := Go.Ground.data }, { on := 1, ground := Go.Ground.guard }], guard := some (1, true) }) rfl (by kernel_rfl) (by kernel_rfl) (by kernel_rfl) (fun _ _ _ h => h) (Or.inr ⟨by rfl, rfl⟩) (by assumption) ?_)
          focus try simp only [Act.put, List.setIfInBounds_toArray, List.set_cons_zero, List.set_cons_succ]
          first | (refine wpAnyH_take (i := 6) (oi := { dst := some 128, op := Go.Op.binOp Go.BinOp.eql 4 (Go.Operand.tmp 124) (Go.Operand.tmp 127) 4, type := 4, pos := "more.go:66", after := #[{ on := 2, ground := Go.Ground.data }, { on := 5, ground := Go.Ground.data }, { on := 1, ground := Go.Ground.guard }], guard := some (1, true) }) (v := ?_) rfl (by kernel_rfl) (by kernel_rfl) (by kernel_rfl) (fun _ _ _ h => h) (Or.inl ⟨by rfl, ?_⟩) (by assumption) ?_; rotate_left 1; focus (intro w_ hSw; (try dsimp only at hSw); go_simp; all_goals (with_reducible rfl); done)) | (refine wpAnyH_take (i := 6) (oi := { dst := some 128, op := Go.Op.binOp Go.BinOp.eql 4 (Go.Operand.tmp 124) (Go.Operand.tmp 127) 4, type := 4, pos := "more.go:66", after := #[{ on := 2, ground := Go.Ground.data }, { on := 5, ground := Go.Ground.data }, { on := 1, ground := Go.Ground.guard }], guard := some (1, true) }) rfl (by kernel_rfl) (by kernel_rfl) (by kernel_rfl) (fun _ _ _ h => h) (Or.inr ⟨by rfl, rfl⟩) (by assumption) ?_)
          focus try simp only [Act.put, List.setIfInBounds_toArray, List.set_cons_zero, List.set_cons_succ]
          refine wpAnyH_take (i := 7) (oi := { dst := some 129, op := Go.Op.pick (Go.Operand.tmp 123) (Go.Operand.tmp 128) (Go.Operand.const (Go.Value.bool false)), type := 4, pos := "more.go:66", after := #[{ on := 1, ground := Go.Ground.data }, { on := 6, ground := Go.Ground.data }], guard := none }) (v := ?_) rfl (by kernel_rfl) (by kernel_rfl) (by kernel_rfl) (fun _ _ _ h => h) (Or.inl ⟨by rfl, ?_⟩) (by assumption) ?_
          rotate_left 1
          · intro w_ hSw; (try dsimp only at hSw); go_simp; all_goals (with_reducible rfl)
          focus try simp only [Act.put, List.setIfInBounds_toArray, List.set_cons_zero, List.set_cons_succ]
          refine wpAnyH_take (i := 8) (oi := { dst := some 130, op := Go.Op.move (Go.Operand.tmp 129), type := 4, pos := "more.go:66", after := #[{ on := 7, ground := Go.Ground.data }, { on := 1, ground := Go.Ground.chain }], guard := none }) (v := ?_) rfl (by kernel_rfl) (by kernel_rfl) (by kernel_rfl) (fun _ _ _ h => h) (Or.inl ⟨by rfl, ?_⟩) (by assumption) ?_
          rotate_left 1
          · intro w_ hSw; (try dsimp only at hSw); go_simp; all_goals (with_reducible rfl)
          focus try simp only [Act.put, List.setIfInBounds_toArray, List.set_cons_zero, List.set_cons_succ]
          first | (refine wpAnyH_take (i := 9) (oi := { dst := some 131, op := Go.Op.move (Go.Operand.tmp 19), type := 4, pos := "more.go:66", after := #[{ on := 8, ground := Go.Ground.guard }], guard := some (8, true) }) (v := ?_) rfl (by kernel_rfl) (by kernel_rfl) (by kernel_rfl) (fun _ _ _ h => h) (Or.inl ⟨by rfl, ?_⟩) (by assumption) ?_; rotate_left 1; focus (intro w_ hSw; (try dsimp only at hSw); go_simp; all_goals (with_reducible rfl); done)) | (refine wpAnyH_take (i := 9) (oi := { dst := some 131, op := Go.Op.move (Go.Operand.tmp 19), type := 4, pos := "more.go:66", after := #[{ on := 8, ground := Go.Ground.guard }], guard := some (8, true) }) rfl (by kernel_rfl) (by kernel_rfl) (by kernel_rfl) (fun _ _ _ h => h) (Or.inr ⟨by rfl, rfl⟩) (by assumption) ?_)
          focus try simp only [Act.put, List.setIfInBounds_toArray, List.set_cons_zero, List.set_cons_succ]
          first | (refine wpAnyH_take (i := 10) (oi := { dst := some 132, op := Go.Op.unOp Go.UnOp.not 4 (Go.Operand.tmp 131), type := 4, pos := "more.go:66", after := #[{ on := 9, ground := Go.Ground.data }, { on := 8, ground := Go.Ground.guard }], guard := some (8, true) }) (v := ?_) rfl (by kernel_rfl) (by kernel_rfl) (by kernel_rfl) (fun _ _ _ h => h) (Or.inl ⟨by rfl, ?_⟩) (by assumption) ?_; rotate_left 1; focus (intro w_ hSw; (try dsimp only at hSw); go_simp; all_goals (with_reducible rfl); done)) | (refine wpAnyH_take (i := 10) (oi := { dst := some 132, op := Go.Op.unOp Go.UnOp.not 4 (Go.Operand.tmp 131), type := 4, pos := "more.go:66", after := #[{ on := 9, ground := Go.Ground.data }, { on := 8, ground := Go.Ground.guard }], guard := some (8, true) }) rfl (by kernel_rfl) (by kernel_rfl) (by kernel_rfl) (fun _ _ _ h => h) (Or.inr ⟨by rfl, rfl⟩) (by assumption) ?_)
          focus try simp only [Act.put, List.setIfInBounds_toArray, List.set_cons_zero, List.set_cons_succ]
          first | (refine wpAnyH_take (i := 11) (oi := { dst := some 133, op := Go.Op.move (Go.Operand.tmp 132), type := 4, pos := "more.go:66", after := #[{ on := 10, ground := Go.Ground.data }, { on := 8, ground := Go.Ground.chain }, { on := 8, ground := Go.Ground.guard }], guard := some (8, true) }) (v := ?_) rfl (by kernel_rfl) (by kernel_rfl) (by kernel_rfl) (fun _ _ _ h => h) (Or.inl ⟨by rfl, ?_⟩) (by assumption) ?_; rotate_left 1; focus (intro w_ hSw; (try dsimp only at hSw); go_simp; all_goals (with_reducible rfl); done)) | (refine wpAnyH_take (i := 11) (oi := { dst := some 133, op := Go.Op.move (Go.Operand.tmp 132), type := 4, pos := "more.go:66", after := #[{ on := 10, ground := Go.Ground.data }, { on := 8, ground := Go.Ground.chain }, { on := 8, ground := Go.Ground.guard }], guard := some (8, true) }) rfl (by kernel_rfl) (by kernel_rfl) (by kernel_rfl) (fun _ _ _ h => h) (Or.inr ⟨by rfl, rfl⟩) (by assumption) ?_)
          focus try simp only [Act.put, List.setIfInBounds_toArray, List.set_cons_zero, List.set_cons_succ]
          first | (refine wpAnyH_take (i := 12) (oi := { dst := some 134, op := Go.Op.load 24 (Go.Operand.tmp 18), type := 24, pos := "more.go:66", after := #[{ on := 11, ground := Go.Ground.guard }], guard := some (11, false) }) (v := ?_) rfl (by kernel_rfl) (by kernel_rfl) (by kernel_rfl) (fun _ _ _ h => h) (Or.inl ⟨by rfl, ?_⟩) (by assumption) ?_; rotate_left 1; focus (intro w_ hSw; (try dsimp only at hSw); go_simp; all_goals (with_reducible rfl); done)) | (refine wpAnyH_take (i := 12) (oi := { dst := some 134, op := Go.Op.load 24 (Go.Operand.tmp 18), type := 24, pos := "more.go:66", after := #[{ on := 11, ground := Go.Ground.guard }], guard := some (11, false) }) rfl (by kernel_rfl) (by kernel_rfl) (by kernel_rfl) (fun _ _ _ h => h) (Or.inr ⟨by rfl, rfl⟩) (by assumption) ?_)
          focus try simp only [Act.put, List.setIfInBounds_toArray, List.set_cons_zero, List.set_cons_succ]
          refine wpAnyH_ready (rs := [13]) (by kernel_rfl) (by simp) ?_
          refine AllReadyH.cons (o := { dst := some 135, op := Go.Op.call { callee := Go.Callee.value (Go.Operand.func 18), args := #[Go.Operand.const (Go.Value.int Go.IntKind.i64 1)], argTypes := #[2] }, type := 24, pos := "more.go:66", after := #[{ on := 11, ground := Go.Ground.chain }, { on := 11, ground := Go.Ground.guard }], guard := some (11, false) }) rfl (fun K hK => ?_) (AllReadyH.nil)
          focus go_simp
          focus (refine (Whole_any _ _).mono ?_; rintro e wz ⟨rfl, hbz⟩)
          focus try simp only []
          refine hK.out _ _ ?_ (fun hHeld => ?_)
          · (have hq := hHeld; (try dsimp only at hq); obtain ⟨q0, q1, q2, q3, q4, q5⟩ := hq; exact ⟨keepcell hbz q0, keepcell hbz q1, keepcell hbz q2, keepcell hbz q3, keepcell hbz q4, keepcell hbz q5⟩)
          focus clear hK K
          focus try simp only [Act.put, List.setIfInBounds_toArray, List.set_cons_zero, List.set_cons_succ]
          first | (refine wpAnyH_take (i := 14) (oi := { dst := some 136, op := Go.Op.binOp Go.BinOp.eql 24 (Go.Operand.tmp 134) (Go.Operand.tmp 135) 24, type := 4, pos := "more.go:66", after := #[{ on := 12, ground := Go.Ground.data }, { on := 13, ground := Go.Ground.data }, { on := 11, ground := Go.Ground.guard }], guard := some (11, false) }) (v := ?_) rfl (by kernel_rfl) (by kernel_rfl) (by kernel_rfl) (fun _ _ _ h => h) (Or.inl ⟨by rfl, ?_⟩) (by assumption) ?_; rotate_left 1; focus (intro w_ hSw; (try dsimp only at hSw); go_simp; all_goals (with_reducible rfl); done)) | (refine wpAnyH_take (i := 14) (oi := { dst := some 136, op := Go.Op.binOp Go.BinOp.eql 24 (Go.Operand.tmp 134) (Go.Operand.tmp 135) 24, type := 4, pos := "more.go:66", after := #[{ on := 12, ground := Go.Ground.data }, { on := 13, ground := Go.Ground.data }, { on := 11, ground := Go.Ground.guard }], guard := some (11, false) }) rfl (by kernel_rfl) (by kernel_rfl) (by kernel_rfl) (fun _ _ _ h => h) (Or.inr ⟨by rfl, rfl⟩) (by assumption) ?_)
          focus try simp only [Act.put, List.setIfInBounds_toArray, List.set_cons_zero, List.set_cons_succ]
          first | (refine wpAnyH_take (i := 15) (oi := { dst := some 137, op := Go.Op.pick (Go.Operand.tmp 133) (Go.Operand.const (Go.Value.bool true)) (Go.Operand.tmp 136), type := 4, pos := "more.go:66", after := #[{ on := 11, ground := Go.Ground.data }, { on := 14, ground := Go.Ground.data }, { on := 8, ground := Go.Ground.guard }], guard := some (8, true) }) (v := ?_) rfl (by kernel_rfl) (by kernel_rfl) (by kernel_rfl) (fun _ _ _ h => h) (Or.inl ⟨by rfl, ?_⟩) (by assumption) ?_; rotate_left 1; focus (intro w_ hSw; (try dsimp only at hSw); go_simp; all_goals (with_reducible rfl); done)) | (refine wpAnyH_take (i := 15) (oi := { dst := some 137, op := Go.Op.pick (Go.Operand.tmp 133) (Go.Operand.const (Go.Value.bool true)) (Go.Operand.tmp 136), type := 4, pos := "more.go:66", after := #[{ on := 11, ground := Go.Ground.data }, { on := 14, ground := Go.Ground.data }, { on := 8, ground := Go.Ground.guard }], guard := some (8, true) }) rfl (by kernel_rfl) (by kernel_rfl) (by kernel_rfl) (fun _ _ _ h => h) (Or.inr ⟨by rfl, rfl⟩) (by assumption) ?_)
          focus try simp only [Act.put, List.setIfInBounds_toArray, List.set_cons_zero, List.set_cons_succ]
          refine wpAnyH_take (i := 16) (oi := { dst := some 138, op := Go.Op.pick (Go.Operand.tmp 130) (Go.Operand.tmp 137) (Go.Operand.const (Go.Value.bool false)), type := 4, pos := "more.go:66", after := #[{ on := 8, ground := Go.Ground.data }, { on := 15, ground := Go.Ground.data }], guard := none }) (v := ?_) rfl (by kernel_rfl) (by kernel_rfl) (by kernel_rfl) (fun _ _ _ h => h) (Or.inl ⟨by rfl, ?_⟩) (by assumption) ?_
          rotate_left 1
          · intro w_ hSw; (try dsimp only at hSw); go_simp; all_goals (with_reducible rfl)
          focus try simp only [Act.put, List.setIfInBounds_toArray, List.set_cons_zero, List.set_cons_succ]
          refine wpAnyH_take (i := 17) (oi := { dst := some 139, op := Go.Op.move (Go.Operand.tmp 138), type := 4, pos := "more.go:66", after := #[{ on := 16, ground := Go.Ground.data }, { on := 13, ground := Go.Ground.chain }], guard := none }) (v := ?_) rfl (by kernel_rfl) (by kernel_rfl) (by kernel_rfl) (fun _ _ _ h => h) (Or.inl ⟨by rfl, ?_⟩) (by assumption) ?_
          rotate_left 1
          · intro w_ hSw; (try dsimp only at hSw); go_simp; all_goals (with_reducible rfl)
          focus try simp only [Act.put, List.setIfInBounds_toArray, List.set_cons_zero, List.set_cons_succ]
          first | (refine wpAnyH_take (i := 18) (oi := { dst := some 140, op := Go.Op.load 24 (Go.Operand.tmp 20), type := 24, pos := "more.go:66", after := #[{ on := 17, ground := Go.Ground.guard }], guard := some (17, true) }) (v := ?_) rfl (by kernel_rfl) (by kernel_rfl) (by kernel_rfl) (fun _ _ _ h => h) (Or.inl ⟨by rfl, ?_⟩) (by assumption) ?_; rotate_left 1; focus (intro w_ hSw; (try dsimp only at hSw); go_simp; all_goals (with_reducible rfl); done)) | (refine wpAnyH_take (i := 18) (oi := { dst := some 140, op := Go.Op.load 24 (Go.Operand.tmp 20), type := 24, pos := "more.go:66", after := #[{ on := 17, ground := Go.Ground.guard }], guard := some (17, true) }) rfl (by kernel_rfl) (by kernel_rfl) (by kernel_rfl) (fun _ _ _ h => h) (Or.inr ⟨by rfl, rfl⟩) (by assumption) ?_)
          focus try simp only [Act.put, List.setIfInBounds_toArray, List.set_cons_zero, List.set_cons_succ]
          first | (refine wpAnyH_take (i := 19) (oi := { dst := some 141, op := Go.Op.load 24 (Go.Operand.tmp 10), type := 24, pos := "more.go:66", after := #[{ on := 17, ground := Go.Ground.guard }], guard := some (17, true) }) (v := ?_) rfl (by kernel_rfl) (by kernel_rfl) (by kernel_rfl) (fun _ _ _ h => h) (Or.inl ⟨by rfl, ?_⟩) (by assumption) ?_; rotate_left 1; focus (intro w_ hSw; (try dsimp only at hSw); go_simp; all_goals (with_reducible rfl); done)) | (refine wpAnyH_take (i := 19) (oi := { dst := some 141, op := Go.Op.load 24 (Go.Operand.tmp 10), type := 24, pos := "more.go:66", after := #[{ on := 17, ground := Go.Ground.guard }], guard := some (17, true) }) rfl (by kernel_rfl) (by kernel_rfl) (by kernel_rfl) (fun _ _ _ h => h) (Or.inr ⟨by rfl, rfl⟩) (by assumption) ?_)
          focus try simp only [Act.put, List.setIfInBounds_toArray, List.set_cons_zero, List.set_cons_succ]
          first | (refine wpAnyH_take (i := 20) (oi := { dst := some 142, op := Go.Op.binOp Go.BinOp.eql 24 (Go.Operand.tmp 140) (Go.Operand.tmp 141) 24, type := 4, pos := "more.go:66", after := #[{ on := 18, ground := Go.Ground.data }, { on := 19, ground := Go.Ground.data }, { on := 17, ground := Go.Ground.guard }], guard := some (17, true) }) (v := ?_) rfl (by kernel_rfl) (by kernel_rfl) (by kernel_rfl) (fun _ _ _ h => h) (Or.inl ⟨by rfl, ?_⟩) (by assumption) ?_; rotate_left 1; focus (intro w_ hSw; (try dsimp only at hSw); go_simp; all_goals (with_reducible rfl); done)) | (refine wpAnyH_take (i := 20) (oi := { dst := some 142, op := Go.Op.binOp Go.BinOp.eql 24 (Go.Operand.tmp 140) (Go.Operand.tmp 141) 24, type := 4, pos := "more.go:66", after := #[{ on := 18, ground := Go.Ground.data }, { on := 19, ground := Go.Ground.data }, { on := 17, ground := Go.Ground.guard }], guard := some (17, true) }) rfl (by kernel_rfl) (by kernel_rfl) (by kernel_rfl) (fun _ _ _ h => h) (Or.inr ⟨by rfl, rfl⟩) (by assumption) ?_)
          focus try simp only [Act.put, List.setIfInBounds_toArray, List.set_cons_zero, List.set_cons_succ]
          refine wpAnyH_take (i := 21) (oi := { dst := some 143, op := Go.Op.pick (Go.Operand.tmp 139) (Go.Operand.tmp 142) (Go.Operand.const (Go.Value.bool false)), type := 4, pos := "more.go:66", after := #[{ on := 17, ground := Go.Ground.data }, { on := 20, ground := Go.Ground.data }], guard := none }) (v := ?_) rfl (by kernel_rfl) (by kernel_rfl) (by kernel_rfl) (fun _ _ _ h => h) (Or.inl ⟨by rfl, ?_⟩) (by assumption) ?_
          rotate_left 1
          · intro w_ hSw; (try dsimp only at hSw); go_simp; all_goals (with_reducible rfl)
          focus try simp only [Act.put, List.setIfInBounds_toArray, List.set_cons_zero, List.set_cons_succ]
          refine wpAnyH_take (i := 22) (oi := { dst := some 8, op := Go.Op.assign (Go.Operand.tmp 143), type := 4, pos := "more.go:66", after := #[{ on := 21, ground := Go.Ground.data }, { on := 17, ground := Go.Ground.chain }, { on := 0, ground := Go.Ground.phase }, { on := 1, ground := Go.Ground.phase }, { on := 2, ground := Go.Ground.phase }, { on := 3, ground := Go.Ground.phase }, { on := 4, ground := Go.Ground.phase }, { on := 5, ground := Go.Ground.phase }, { on := 6, ground := Go.Ground.phase }, { on := 7, ground := Go.Ground.phase }, { on := 8, ground := Go.Ground.phase }, { on := 9, ground := Go.Ground.phase }, { on := 10, ground := Go.Ground.phase }, { on := 11, ground := Go.Ground.phase }, { on := 12, ground := Go.Ground.phase }, { on := 13, ground := Go.Ground.phase }, { on := 14, ground := Go.Ground.phase }, { on := 15, ground := Go.Ground.phase }, { on := 16, ground := Go.Ground.phase }, { on := 17, ground := Go.Ground.phase }, { on := 18, ground := Go.Ground.phase }, { on := 19, ground := Go.Ground.phase }, { on := 20, ground := Go.Ground.phase }, { on := 21, ground := Go.Ground.phase }], guard := none }) (v := ?_) rfl (by kernel_rfl) (by kernel_rfl) (by kernel_rfl) (fun _ _ _ h => h) (Or.inl ⟨by rfl, ?_⟩) (by assumption) ?_
          rotate_left 1
          · intro w_ hSw; (try dsimp only at hSw); go_simp; all_goals (with_reducible rfl)
          focus try simp only [Act.put, List.setIfInBounds_toArray, List.set_cons_zero, List.set_cons_succ]
          refine wpAnyH_done (by kernel_rfl) ?_ _
          rotate_left 1
          all_goals (
            have hbwz : Below w.heap.size w wz := by refine Below.trans ?_ (hbz.mono (by first | exact Nat.le_refl _ | (simp; done) | (simp; omega) | omega)); exact (by repeat (first | exact Below.refl _ _ | with_reducible assumption | refine Below.alloc ?_ (by first | exact Nat.le_refl _ | (simp; done) | (simp; omega) | omega) _ | refine Below.setCell ?_ (by first | exact Nat.le_refl _ | (simp; done) | (simp; omega) | omega) _ | refine Below.drew ?_ | refine bdrewN ?_ _))
            go_wp2
            go_ret
            exact ⟨rfl, (by repeat (first | exact Below.refl _ _ | with_reducible assumption | refine Below.alloc ?_ (by first | exact Nat.le_refl _ | (simp; done) | (simp; omega) | omega) _ | refine Below.setCell ?_ (by first | exact Nat.le_refl _ | (simp; done) | (simp; omega) | omega) _ | refine Below.drew ?_ | refine bdrewN ?_ _))⟩)
        · go_wp2
          go_quiet (fail)
          go_wp2
          go_ret
          exact ⟨rfl, (by repeat (first | exact Below.refl _ _ | with_reducible assumption | refine Below.alloc ?_ (by first | exact Nat.le_refl _ | (simp; done) | (simp; omega) | omega) _ | refine Below.setCell ?_ (by first | exact Nat.le_refl _ | (simp; done) | (simp; omega) | omega) _ | refine Below.drew ?_ | refine bdrewN ?_ _))⟩
end Go.Proofs.Ytnggikhpnophgaa.Given
