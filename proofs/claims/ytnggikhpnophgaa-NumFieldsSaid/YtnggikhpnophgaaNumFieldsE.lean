/- The walk of NumFields, one way through it. -/
import Derived.Test.YtnggikhpnophgaaNumRats
namespace Go.Proofs.Ytnggikhpnophgaa.Given
open Go.RowKit Go.Proofs.Ytnggikhpnophgaa.Num
set_option linter.unusedVariables false
set_option linter.unusedSimpArgs false

set_option maxRecDepth 100000 in
set_option maxHeartbeats 32000000 in
theorem fields_E (p q r s t u : Int) {P1 P2 R2 T1 T2 x1 x2 z1 z2 y1 y2 m1 m2 n1 n2 o1 o2 : Int} {E F G H : Bool} (w : World)
    (k0 : ∀ w, Calls Try.prog 22 #[.int .i64 p, .int .i64 q, .int .i64 r, .int .i64 s] w fun e w' => e = .returned (.tuple #[.agg #[.int .i64 P1, .int .i64 P2], .agg #[.int .i64 0, .int .i64 R2], .bool true]) ∧ Below w.heap.size w w')
    (k1 : ∀ w, Calls Try.prog 15 #[.int .i64 t, .int .i64 u] w fun e w' => e = .returned (.tuple #[.agg #[.int .i64 T1, .int .i64 T2], .bool true]) ∧ Below w.heap.size w w')
    (k2 : ∀ w, Calls Try.prog 23 #[.agg #[.int .i64 P1, .int .i64 P2], .agg #[.int .i64 0, .int .i64 R2]] w fun e w' => e = .returned (.tuple #[.agg #[.int .i64 x1, .int .i64 x2], .bool false]) ∧ Below w.heap.size w w')
    (k3 : ∀ w, Calls Try.prog 23 #[.agg #[.int .i64 0, .int .i64 R2], .agg #[.int .i64 P1, .int .i64 P2]] w fun e w' => e = .returned (.tuple #[.agg #[.int .i64 x1, .int .i64 x2], .bool false]) ∧ Below w.heap.size w w')
    (k4 : ∀ w, Calls Try.prog 35 #[.agg #[.int .i64 P1, .int .i64 P2], .agg #[.int .i64 0, .int .i64 R2]] w fun e w' => e = .returned (.tuple #[.agg #[.int .i64 z1, .int .i64 z2], .bool true]) ∧ Below w.heap.size w w')
    (k5 : ∀ w, Calls Try.prog 35 #[.agg #[.int .i64 0, .int .i64 R2], .agg #[.int .i64 P1, .int .i64 P2]] w fun e w' => e = .returned (.tuple #[.agg #[.int .i64 z1, .int .i64 z2], .bool true]) ∧ Below w.heap.size w w')
    (k8 : ∀ w, Calls Try.prog 35 #[.agg #[.int .i64 x1, .int .i64 x2], .agg #[.int .i64 T1, .int .i64 T2]] w fun e w' => e = .returned (.tuple #[.agg #[.int .i64 y1, .int .i64 y2], .bool E]) ∧ Below w.heap.size w w')
    (k9 : ∀ w, Calls Try.prog 35 #[.agg #[.int .i64 P1, .int .i64 P2], .agg #[.int .i64 T1, .int .i64 T2]] w fun e w' => e = .returned (.tuple #[.agg #[.int .i64 m1, .int .i64 m2], .bool F]) ∧ Below w.heap.size w w')
    (k10 : ∀ w, Calls Try.prog 35 #[.agg #[.int .i64 0, .int .i64 R2], .agg #[.int .i64 T1, .int .i64 T2]] w fun e w' => e = .returned (.tuple #[.agg #[.int .i64 n1, .int .i64 n2], .bool G]) ∧ Below w.heap.size w w')
    (k11 : ∀ w, Calls Try.prog 23 #[.agg #[.int .i64 m1, .int .i64 m2], .agg #[.int .i64 n1, .int .i64 n2]] w fun e w' => e = .returned (.tuple #[.agg #[.int .i64 o1, .int .i64 o2], .bool H]) ∧ Below w.heap.size w w')
    :
    Calls Try.prog 12 #[.int .i64 p, .int .i64 q, .int .i64 r, .int .i64 s, .int .i64 t, .int .i64 u] w fun e w' => e = .returned (.bool true) ∧ Below w.heap.size w w' := by
  go_enter Try.func12, Try.ntmps12
  go_wp2_with fail
  refine (shown_any _).mono ?_
  rintro e w1 ⟨rfl, hb1⟩
  have hbw1 : Below w.heap.size w w1 := by refine Below.trans ?_ (hb1.mono (by first | exact Nat.le_refl _ | (simp; done) | (simp; omega) | omega)); exact (by repeat (first | exact Below.refl _ _ | with_reducible assumption | refine Below.alloc ?_ (by first | exact Nat.le_refl _ | (simp; done) | (simp; omega) | omega) _ | refine Below.setCell ?_ (by first | exact Nat.le_refl _ | (simp; done) | (simp; omega) | omega) _ | refine Below.drew ?_ | refine bdrewN ?_ _))
  have hz1 := hbw1.size
  go_wp2_with fail
  refine (k0 _).mono ?_
  rintro e w2 ⟨rfl, hb2⟩
  have hbw2 : Below w.heap.size w w2 := by refine Below.trans ?_ (hb2.mono (by first | exact Nat.le_refl _ | (simp; done) | (simp; omega) | omega)); exact (by repeat (first | exact Below.refl _ _ | with_reducible assumption | refine Below.alloc ?_ (by first | exact Nat.le_refl _ | (simp; done) | (simp; omega) | omega) _ | refine Below.setCell ?_ (by first | exact Nat.le_refl _ | (simp; done) | (simp; omega) | omega) _ | refine Below.drew ?_ | refine bdrewN ?_ _))
  have hz2 := hbw2.size
  go_wp2_with fail
  refine (k1 _).mono ?_
  rintro e w3 ⟨rfl, hb3⟩
  have hbw3 : Below w.heap.size w w3 := by refine Below.trans ?_ (hb3.mono (by first | exact Nat.le_refl _ | (simp; done) | (simp; omega) | omega)); exact (by repeat (first | exact Below.refl _ _ | with_reducible assumption | refine Below.alloc ?_ (by first | exact Nat.le_refl _ | (simp; done) | (simp; omega) | omega) _ | refine Below.setCell ?_ (by first | exact Nat.le_refl _ | (simp; done) | (simp; omega) | omega) _ | refine Below.drew ?_ | refine bdrewN ?_ _))
  have hz3 := hbw3.size
  have BA0_3 : w3.cell? ⟨w2.heap.size, 0, none⟩ = some (.int .i64 P1) := keepcell hb3 (by simp [go_sem]; done)
  have BA1_3 : w3.cell? ⟨w2.heap.size, 1, none⟩ = some (.int .i64 P2) := keepcell hb3 (by simp [go_sem]; done)
  have BAz_3 : w2.heap.size < w3.heap.size := cell_lt BA0_3
  have BB0_3 : w3.cell? ⟨w2.heap.size + 1, 0, none⟩ = some (.int .i64 0) := keepcell hb3 (by simp [go_sem]; done)
  have BB1_3 : w3.cell? ⟨w2.heap.size + 1, 1, none⟩ = some (.int .i64 R2) := keepcell hb3 (by simp [go_sem]; done)
  have BBz_3 : w2.heap.size + 1 < w3.heap.size := cell_lt BB0_3
  go_wp2_with fail
  refine (k2 _).mono ?_
  rintro e w4 ⟨rfl, hb4⟩
  have hbw4 : Below w.heap.size w w4 := by refine Below.trans ?_ (hb4.mono (by first | exact Nat.le_refl _ | (simp; done) | (simp; omega) | omega)); exact (by repeat (first | exact Below.refl _ _ | with_reducible assumption | refine Below.alloc ?_ (by first | exact Nat.le_refl _ | (simp; done) | (simp; omega) | omega) _ | refine Below.setCell ?_ (by first | exact Nat.le_refl _ | (simp; done) | (simp; omega) | omega) _ | refine Below.drew ?_ | refine bdrewN ?_ _))
  have hz4 := hbw4.size
  have BA0_4 : w4.cell? ⟨w2.heap.size, 0, none⟩ = some (.int .i64 P1) := keepcell hb4 (by first | exact BA0_3 | exact keepalloc BA0_3 | exact keepalloc (keepalloc BA0_3) | exact keepset (by omega) BA0_3 | (simp [go_sem, BA0_3, Nat.ne_of_lt, Nat.ne_of_gt]; done))
  have BA1_4 : w4.cell? ⟨w2.heap.size, 1, none⟩ = some (.int .i64 P2) := keepcell hb4 (by first | exact BA1_3 | exact keepalloc BA1_3 | exact keepalloc (keepalloc BA1_3) | exact keepset (by omega) BA1_3 | (simp [go_sem, BA1_3, Nat.ne_of_lt, Nat.ne_of_gt]; done))
  have BAz_4 : w2.heap.size < w4.heap.size := cell_lt BA0_4
  have BB0_4 : w4.cell? ⟨w2.heap.size + 1, 0, none⟩ = some (.int .i64 0) := keepcell hb4 (by first | exact BB0_3 | exact keepalloc BB0_3 | exact keepalloc (keepalloc BB0_3) | exact keepset (by omega) BB0_3 | (simp [go_sem, BB0_3, Nat.ne_of_lt, Nat.ne_of_gt]; done))
  have BB1_4 : w4.cell? ⟨w2.heap.size + 1, 1, none⟩ = some (.int .i64 R2) := keepcell hb4 (by first | exact BB1_3 | exact keepalloc BB1_3 | exact keepalloc (keepalloc BB1_3) | exact keepset (by omega) BB1_3 | (simp [go_sem, BB1_3, Nat.ne_of_lt, Nat.ne_of_gt]; done))
  have BBz_4 : w2.heap.size + 1 < w4.heap.size := cell_lt BB0_4
  have BC0_4 : w4.cell? ⟨w3.heap.size, 0, none⟩ = some (.int .i64 T1) := keepcell hb4 (by simp [go_sem]; done)
  have BC1_4 : w4.cell? ⟨w3.heap.size, 1, none⟩ = some (.int .i64 T2) := keepcell hb4 (by simp [go_sem]; done)
  have BCz_4 : w3.heap.size < w4.heap.size := cell_lt BC0_4
  go_wp2_with fail
  refine (k3 _).mono ?_
  rintro e w5 ⟨rfl, hb5⟩
  have hbw5 : Below w.heap.size w w5 := by refine Below.trans ?_ (hb5.mono (by first | exact Nat.le_refl _ | (simp; done) | (simp; omega) | omega)); exact (by repeat (first | exact Below.refl _ _ | with_reducible assumption | refine Below.alloc ?_ (by first | exact Nat.le_refl _ | (simp; done) | (simp; omega) | omega) _ | refine Below.setCell ?_ (by first | exact Nat.le_refl _ | (simp; done) | (simp; omega) | omega) _ | refine Below.drew ?_ | refine bdrewN ?_ _))
  have hz5 := hbw5.size
  have BA0_5 : w5.cell? ⟨w2.heap.size, 0, none⟩ = some (.int .i64 P1) := keepcell hb5 (by first | exact BA0_4 | exact keepalloc BA0_4 | exact keepalloc (keepalloc BA0_4) | exact keepset (by omega) BA0_4 | (simp [go_sem, BA0_4, Nat.ne_of_lt, Nat.ne_of_gt]; done))
  have BA1_5 : w5.cell? ⟨w2.heap.size, 1, none⟩ = some (.int .i64 P2) := keepcell hb5 (by first | exact BA1_4 | exact keepalloc BA1_4 | exact keepalloc (keepalloc BA1_4) | exact keepset (by omega) BA1_4 | (simp [go_sem, BA1_4, Nat.ne_of_lt, Nat.ne_of_gt]; done))
  have BAz_5 : w2.heap.size < w5.heap.size := cell_lt BA0_5
  have BB0_5 : w5.cell? ⟨w2.heap.size + 1, 0, none⟩ = some (.int .i64 0) := keepcell hb5 (by first | exact BB0_4 | exact keepalloc BB0_4 | exact keepalloc (keepalloc BB0_4) | exact keepset (by omega) BB0_4 | (simp [go_sem, BB0_4, Nat.ne_of_lt, Nat.ne_of_gt]; done))
  have BB1_5 : w5.cell? ⟨w2.heap.size + 1, 1, none⟩ = some (.int .i64 R2) := keepcell hb5 (by first | exact BB1_4 | exact keepalloc BB1_4 | exact keepalloc (keepalloc BB1_4) | exact keepset (by omega) BB1_4 | (simp [go_sem, BB1_4, Nat.ne_of_lt, Nat.ne_of_gt]; done))
  have BBz_5 : w2.heap.size + 1 < w5.heap.size := cell_lt BB0_5
  have BC0_5 : w5.cell? ⟨w3.heap.size, 0, none⟩ = some (.int .i64 T1) := keepcell hb5 (by first | exact BC0_4 | exact keepalloc BC0_4 | exact keepalloc (keepalloc BC0_4) | exact keepset (by omega) BC0_4 | (simp [go_sem, BC0_4, Nat.ne_of_lt, Nat.ne_of_gt]; done))
  have BC1_5 : w5.cell? ⟨w3.heap.size, 1, none⟩ = some (.int .i64 T2) := keepcell hb5 (by first | exact BC1_4 | exact keepalloc BC1_4 | exact keepalloc (keepalloc BC1_4) | exact keepset (by omega) BC1_4 | (simp [go_sem, BC1_4, Nat.ne_of_lt, Nat.ne_of_gt]; done))
  have BCz_5 : w3.heap.size < w5.heap.size := cell_lt BC0_5
  have BX0_5 : w5.cell? ⟨w4.heap.size, 0, none⟩ = some (.int .i64 x1) := keepcell hb5 (by simp [go_sem]; done)
  have BX1_5 : w5.cell? ⟨w4.heap.size, 1, none⟩ = some (.int .i64 x2) := keepcell hb5 (by simp [go_sem]; done)
  have BXz_5 : w4.heap.size < w5.heap.size := cell_lt BX0_5
  go_wp2_with fail
  refine (k4 _).mono ?_
  rintro e w6 ⟨rfl, hb6⟩
  have hbw6 : Below w.heap.size w w6 := by refine Below.trans ?_ (hb6.mono (by first | exact Nat.le_refl _ | (simp; done) | (simp; omega) | omega)); exact (by repeat (first | exact Below.refl _ _ | with_reducible assumption | refine Below.alloc ?_ (by first | exact Nat.le_refl _ | (simp; done) | (simp; omega) | omega) _ | refine Below.setCell ?_ (by first | exact Nat.le_refl _ | (simp; done) | (simp; omega) | omega) _ | refine Below.drew ?_ | refine bdrewN ?_ _))
  have hz6 := hbw6.size
  have BA0_6 : w6.cell? ⟨w2.heap.size, 0, none⟩ = some (.int .i64 P1) := keepcell hb6 (by first | exact BA0_5 | exact keepalloc BA0_5 | exact keepalloc (keepalloc BA0_5) | exact keepset (by omega) BA0_5 | (simp [go_sem, BA0_5, Nat.ne_of_lt, Nat.ne_of_gt]; done))
  have BA1_6 : w6.cell? ⟨w2.heap.size, 1, none⟩ = some (.int .i64 P2) := keepcell hb6 (by first | exact BA1_5 | exact keepalloc BA1_5 | exact keepalloc (keepalloc BA1_5) | exact keepset (by omega) BA1_5 | (simp [go_sem, BA1_5, Nat.ne_of_lt, Nat.ne_of_gt]; done))
  have BAz_6 : w2.heap.size < w6.heap.size := cell_lt BA0_6
  have BB0_6 : w6.cell? ⟨w2.heap.size + 1, 0, none⟩ = some (.int .i64 0) := keepcell hb6 (by first | exact BB0_5 | exact keepalloc BB0_5 | exact keepalloc (keepalloc BB0_5) | exact keepset (by omega) BB0_5 | (simp [go_sem, BB0_5, Nat.ne_of_lt, Nat.ne_of_gt]; done))
  have BB1_6 : w6.cell? ⟨w2.heap.size + 1, 1, none⟩ = some (.int .i64 R2) := keepcell hb6 (by first | exact BB1_5 | exact keepalloc BB1_5 | exact keepalloc (keepalloc BB1_5) | exact keepset (by omega) BB1_5 | (simp [go_sem, BB1_5, Nat.ne_of_lt, Nat.ne_of_gt]; done))
  have BBz_6 : w2.heap.size + 1 < w6.heap.size := cell_lt BB0_6
  have BC0_6 : w6.cell? ⟨w3.heap.size, 0, none⟩ = some (.int .i64 T1) := keepcell hb6 (by first | exact BC0_5 | exact keepalloc BC0_5 | exact keepalloc (keepalloc BC0_5) | exact keepset (by omega) BC0_5 | (simp [go_sem, BC0_5, Nat.ne_of_lt, Nat.ne_of_gt]; done))
  have BC1_6 : w6.cell? ⟨w3.heap.size, 1, none⟩ = some (.int .i64 T2) := keepcell hb6 (by first | exact BC1_5 | exact keepalloc BC1_5 | exact keepalloc (keepalloc BC1_5) | exact keepset (by omega) BC1_5 | (simp [go_sem, BC1_5, Nat.ne_of_lt, Nat.ne_of_gt]; done))
  have BCz_6 : w3.heap.size < w6.heap.size := cell_lt BC0_6
  have BX0_6 : w6.cell? ⟨w4.heap.size, 0, none⟩ = some (.int .i64 x1) := keepcell hb6 (by first | exact BX0_5 | exact keepalloc BX0_5 | exact keepalloc (keepalloc BX0_5) | exact keepset (by omega) BX0_5 | (simp [go_sem, BX0_5, Nat.ne_of_lt, Nat.ne_of_gt]; done))
  have BX1_6 : w6.cell? ⟨w4.heap.size, 1, none⟩ = some (.int .i64 x2) := keepcell hb6 (by first | exact BX1_5 | exact keepalloc BX1_5 | exact keepalloc (keepalloc BX1_5) | exact keepset (by omega) BX1_5 | (simp [go_sem, BX1_5, Nat.ne_of_lt, Nat.ne_of_gt]; done))
  have BXz_6 : w4.heap.size < w6.heap.size := cell_lt BX0_6
  have BY0_6 : w6.cell? ⟨w5.heap.size, 0, none⟩ = some (.int .i64 x1) := keepcell hb6 (by simp [go_sem]; done)
  have BY1_6 : w6.cell? ⟨w5.heap.size, 1, none⟩ = some (.int .i64 x2) := keepcell hb6 (by simp [go_sem]; done)
  have BYz_6 : w5.heap.size < w6.heap.size := cell_lt BY0_6
  go_wp2_with fail
  refine (k5 _).mono ?_
  rintro e w7 ⟨rfl, hb7⟩
  have hbw7 : Below w.heap.size w w7 := by refine Below.trans ?_ (hb7.mono (by first | exact Nat.le_refl _ | (simp; done) | (simp; omega) | omega)); exact (by repeat (first | exact Below.refl _ _ | with_reducible assumption | refine Below.alloc ?_ (by first | exact Nat.le_refl _ | (simp; done) | (simp; omega) | omega) _ | refine Below.setCell ?_ (by first | exact Nat.le_refl _ | (simp; done) | (simp; omega) | omega) _ | refine Below.drew ?_ | refine bdrewN ?_ _))
  have hz7 := hbw7.size
  have BA0_7 : w7.cell? ⟨w2.heap.size, 0, none⟩ = some (.int .i64 P1) := keepcell hb7 (by first | exact BA0_6 | exact keepalloc BA0_6 | exact keepalloc (keepalloc BA0_6) | exact keepset (by omega) BA0_6 | (simp [go_sem, BA0_6, Nat.ne_of_lt, Nat.ne_of_gt]; done))
  have BA1_7 : w7.cell? ⟨w2.heap.size, 1, none⟩ = some (.int .i64 P2) := keepcell hb7 (by first | exact BA1_6 | exact keepalloc BA1_6 | exact keepalloc (keepalloc BA1_6) | exact keepset (by omega) BA1_6 | (simp [go_sem, BA1_6, Nat.ne_of_lt, Nat.ne_of_gt]; done))
  have BAz_7 : w2.heap.size < w7.heap.size := cell_lt BA0_7
  have BB0_7 : w7.cell? ⟨w2.heap.size + 1, 0, none⟩ = some (.int .i64 0) := keepcell hb7 (by first | exact BB0_6 | exact keepalloc BB0_6 | exact keepalloc (keepalloc BB0_6) | exact keepset (by omega) BB0_6 | (simp [go_sem, BB0_6, Nat.ne_of_lt, Nat.ne_of_gt]; done))
  have BB1_7 : w7.cell? ⟨w2.heap.size + 1, 1, none⟩ = some (.int .i64 R2) := keepcell hb7 (by first | exact BB1_6 | exact keepalloc BB1_6 | exact keepalloc (keepalloc BB1_6) | exact keepset (by omega) BB1_6 | (simp [go_sem, BB1_6, Nat.ne_of_lt, Nat.ne_of_gt]; done))
  have BBz_7 : w2.heap.size + 1 < w7.heap.size := cell_lt BB0_7
  have BC0_7 : w7.cell? ⟨w3.heap.size, 0, none⟩ = some (.int .i64 T1) := keepcell hb7 (by first | exact BC0_6 | exact keepalloc BC0_6 | exact keepalloc (keepalloc BC0_6) | exact keepset (by omega) BC0_6 | (simp [go_sem, BC0_6, Nat.ne_of_lt, Nat.ne_of_gt]; done))
  have BC1_7 : w7.cell? ⟨w3.heap.size, 1, none⟩ = some (.int .i64 T2) := keepcell hb7 (by first | exact BC1_6 | exact keepalloc BC1_6 | exact keepalloc (keepalloc BC1_6) | exact keepset (by omega) BC1_6 | (simp [go_sem, BC1_6, Nat.ne_of_lt, Nat.ne_of_gt]; done))
  have BCz_7 : w3.heap.size < w7.heap.size := cell_lt BC0_7
  have BX0_7 : w7.cell? ⟨w4.heap.size, 0, none⟩ = some (.int .i64 x1) := keepcell hb7 (by first | exact BX0_6 | exact keepalloc BX0_6 | exact keepalloc (keepalloc BX0_6) | exact keepset (by omega) BX0_6 | (simp [go_sem, BX0_6, Nat.ne_of_lt, Nat.ne_of_gt]; done))
  have BX1_7 : w7.cell? ⟨w4.heap.size, 1, none⟩ = some (.int .i64 x2) := keepcell hb7 (by first | exact BX1_6 | exact keepalloc BX1_6 | exact keepalloc (keepalloc BX1_6) | exact keepset (by omega) BX1_6 | (simp [go_sem, BX1_6, Nat.ne_of_lt, Nat.ne_of_gt]; done))
  have BXz_7 : w4.heap.size < w7.heap.size := cell_lt BX0_7
  have BZ0_7 : w7.cell? ⟨w6.heap.size, 0, none⟩ = some (.int .i64 z1) := keepcell hb7 (by simp [go_sem]; done)
  have BZ1_7 : w7.cell? ⟨w6.heap.size, 1, none⟩ = some (.int .i64 z2) := keepcell hb7 (by simp [go_sem]; done)
  have BZz_7 : w6.heap.size < w7.heap.size := cell_lt BZ0_7
  go_wp2_with fail
  refine (k8 _).mono ?_
  rintro e w8 ⟨rfl, hb8⟩
  have hbw8 : Below w.heap.size w w8 := by refine Below.trans ?_ (hb8.mono (by first | exact Nat.le_refl _ | (simp; done) | (simp; omega) | omega)); exact (by repeat (first | exact Below.refl _ _ | with_reducible assumption | refine Below.alloc ?_ (by first | exact Nat.le_refl _ | (simp; done) | (simp; omega) | omega) _ | refine Below.setCell ?_ (by first | exact Nat.le_refl _ | (simp; done) | (simp; omega) | omega) _ | refine Below.drew ?_ | refine bdrewN ?_ _))
  have hz8 := hbw8.size
  have BA0_8 : w8.cell? ⟨w2.heap.size, 0, none⟩ = some (.int .i64 P1) := keepcell hb8 (by first | exact BA0_7 | exact keepalloc BA0_7 | exact keepalloc (keepalloc BA0_7) | exact keepset (by omega) BA0_7 | (simp [go_sem, BA0_7, Nat.ne_of_lt, Nat.ne_of_gt]; done))
  have BA1_8 : w8.cell? ⟨w2.heap.size, 1, none⟩ = some (.int .i64 P2) := keepcell hb8 (by first | exact BA1_7 | exact keepalloc BA1_7 | exact keepalloc (keepalloc BA1_7) | exact keepset (by omega) BA1_7 | (simp [go_sem, BA1_7, Nat.ne_of_lt, Nat.ne_of_gt]; done))
  have BAz_8 : w2.heap.size < w8.heap.size := cell_lt BA0_8
  have BB0_8 : w8.cell? ⟨w2.heap.size + 1, 0, none⟩ = some (.int .i64 0) := keepcell hb8 (by first | exact BB0_7 | exact keepalloc BB0_7 | exact keepalloc (keepalloc BB0_7) | exact keepset (by omega) BB0_7 | (simp [go_sem, BB0_7, Nat.ne_of_lt, Nat.ne_of_gt]; done))
  have BB1_8 : w8.cell? ⟨w2.heap.size + 1, 1, none⟩ = some (.int .i64 R2) := keepcell hb8 (by first | exact BB1_7 | exact keepalloc BB1_7 | exact keepalloc (keepalloc BB1_7) | exact keepset (by omega) BB1_7 | (simp [go_sem, BB1_7, Nat.ne_of_lt, Nat.ne_of_gt]; done))
  have BBz_8 : w2.heap.size + 1 < w8.heap.size := cell_lt BB0_8
  have BC0_8 : w8.cell? ⟨w3.heap.size, 0, none⟩ = some (.int .i64 T1) := keepcell hb8 (by first | exact BC0_7 | exact keepalloc BC0_7 | exact keepalloc (keepalloc BC0_7) | exact keepset (by omega) BC0_7 | (simp [go_sem, BC0_7, Nat.ne_of_lt, Nat.ne_of_gt]; done))
  have BC1_8 : w8.cell? ⟨w3.heap.size, 1, none⟩ = some (.int .i64 T2) := keepcell hb8 (by first | exact BC1_7 | exact keepalloc BC1_7 | exact keepalloc (keepalloc BC1_7) | exact keepset (by omega) BC1_7 | (simp [go_sem, BC1_7, Nat.ne_of_lt, Nat.ne_of_gt]; done))
  have BCz_8 : w3.heap.size < w8.heap.size := cell_lt BC0_8
  have BX0_8 : w8.cell? ⟨w4.heap.size, 0, none⟩ = some (.int .i64 x1) := keepcell hb8 (by first | exact BX0_7 | exact keepalloc BX0_7 | exact keepalloc (keepalloc BX0_7) | exact keepset (by omega) BX0_7 | (simp [go_sem, BX0_7, Nat.ne_of_lt, Nat.ne_of_gt]; done))
  have BX1_8 : w8.cell? ⟨w4.heap.size, 1, none⟩ = some (.int .i64 x2) := keepcell hb8 (by first | exact BX1_7 | exact keepalloc BX1_7 | exact keepalloc (keepalloc BX1_7) | exact keepset (by omega) BX1_7 | (simp [go_sem, BX1_7, Nat.ne_of_lt, Nat.ne_of_gt]; done))
  have BXz_8 : w4.heap.size < w8.heap.size := cell_lt BX0_8
  have BZ0_8 : w8.cell? ⟨w6.heap.size, 0, none⟩ = some (.int .i64 z1) := keepcell hb8 (by first | exact BZ0_7 | exact keepalloc BZ0_7 | exact keepalloc (keepalloc BZ0_7) | exact keepset (by omega) BZ0_7 | (simp [go_sem, BZ0_7, Nat.ne_of_lt, Nat.ne_of_gt]; done))
  have BZ1_8 : w8.cell? ⟨w6.heap.size, 1, none⟩ = some (.int .i64 z2) := keepcell hb8 (by first | exact BZ1_7 | exact keepalloc BZ1_7 | exact keepalloc (keepalloc BZ1_7) | exact keepset (by omega) BZ1_7 | (simp [go_sem, BZ1_7, Nat.ne_of_lt, Nat.ne_of_gt]; done))
  have BZz_8 : w6.heap.size < w8.heap.size := cell_lt BZ0_8
  have BW0_8 : w8.cell? ⟨w7.heap.size, 0, none⟩ = some (.int .i64 z1) := keepcell hb8 (by simp [go_sem]; done)
  have BW1_8 : w8.cell? ⟨w7.heap.size, 1, none⟩ = some (.int .i64 z2) := keepcell hb8 (by simp [go_sem]; done)
  have BWz_8 : w7.heap.size < w8.heap.size := cell_lt BW0_8
  go_wp2_with fail
  refine (k9 _).mono ?_
  rintro e w9 ⟨rfl, hb9⟩
  have hbw9 : Below w.heap.size w w9 := by refine Below.trans ?_ (hb9.mono (by first | exact Nat.le_refl _ | (simp; done) | (simp; omega) | omega)); exact (by repeat (first | exact Below.refl _ _ | with_reducible assumption | refine Below.alloc ?_ (by first | exact Nat.le_refl _ | (simp; done) | (simp; omega) | omega) _ | refine Below.setCell ?_ (by first | exact Nat.le_refl _ | (simp; done) | (simp; omega) | omega) _ | refine Below.drew ?_ | refine bdrewN ?_ _))
  have hz9 := hbw9.size
  have BA0_9 : w9.cell? ⟨w2.heap.size, 0, none⟩ = some (.int .i64 P1) := keepcell hb9 (by first | exact BA0_8 | exact keepalloc BA0_8 | exact keepalloc (keepalloc BA0_8) | exact keepset (by omega) BA0_8 | (simp [go_sem, BA0_8, Nat.ne_of_lt, Nat.ne_of_gt]; done))
  have BA1_9 : w9.cell? ⟨w2.heap.size, 1, none⟩ = some (.int .i64 P2) := keepcell hb9 (by first | exact BA1_8 | exact keepalloc BA1_8 | exact keepalloc (keepalloc BA1_8) | exact keepset (by omega) BA1_8 | (simp [go_sem, BA1_8, Nat.ne_of_lt, Nat.ne_of_gt]; done))
  have BAz_9 : w2.heap.size < w9.heap.size := cell_lt BA0_9
  have BB0_9 : w9.cell? ⟨w2.heap.size + 1, 0, none⟩ = some (.int .i64 0) := keepcell hb9 (by first | exact BB0_8 | exact keepalloc BB0_8 | exact keepalloc (keepalloc BB0_8) | exact keepset (by omega) BB0_8 | (simp [go_sem, BB0_8, Nat.ne_of_lt, Nat.ne_of_gt]; done))
  have BB1_9 : w9.cell? ⟨w2.heap.size + 1, 1, none⟩ = some (.int .i64 R2) := keepcell hb9 (by first | exact BB1_8 | exact keepalloc BB1_8 | exact keepalloc (keepalloc BB1_8) | exact keepset (by omega) BB1_8 | (simp [go_sem, BB1_8, Nat.ne_of_lt, Nat.ne_of_gt]; done))
  have BBz_9 : w2.heap.size + 1 < w9.heap.size := cell_lt BB0_9
  have BC0_9 : w9.cell? ⟨w3.heap.size, 0, none⟩ = some (.int .i64 T1) := keepcell hb9 (by first | exact BC0_8 | exact keepalloc BC0_8 | exact keepalloc (keepalloc BC0_8) | exact keepset (by omega) BC0_8 | (simp [go_sem, BC0_8, Nat.ne_of_lt, Nat.ne_of_gt]; done))
  have BC1_9 : w9.cell? ⟨w3.heap.size, 1, none⟩ = some (.int .i64 T2) := keepcell hb9 (by first | exact BC1_8 | exact keepalloc BC1_8 | exact keepalloc (keepalloc BC1_8) | exact keepset (by omega) BC1_8 | (simp [go_sem, BC1_8, Nat.ne_of_lt, Nat.ne_of_gt]; done))
  have BCz_9 : w3.heap.size < w9.heap.size := cell_lt BC0_9
  have BX0_9 : w9.cell? ⟨w4.heap.size, 0, none⟩ = some (.int .i64 x1) := keepcell hb9 (by first | exact BX0_8 | exact keepalloc BX0_8 | exact keepalloc (keepalloc BX0_8) | exact keepset (by omega) BX0_8 | (simp [go_sem, BX0_8, Nat.ne_of_lt, Nat.ne_of_gt]; done))
  have BX1_9 : w9.cell? ⟨w4.heap.size, 1, none⟩ = some (.int .i64 x2) := keepcell hb9 (by first | exact BX1_8 | exact keepalloc BX1_8 | exact keepalloc (keepalloc BX1_8) | exact keepset (by omega) BX1_8 | (simp [go_sem, BX1_8, Nat.ne_of_lt, Nat.ne_of_gt]; done))
  have BXz_9 : w4.heap.size < w9.heap.size := cell_lt BX0_9
  have BF0_9 : w9.cell? ⟨w8.heap.size, 0, none⟩ = some (.int .i64 y1) := keepcell hb9 (by simp [go_sem]; done)
  have BF1_9 : w9.cell? ⟨w8.heap.size, 1, none⟩ = some (.int .i64 y2) := keepcell hb9 (by simp [go_sem]; done)
  have BFz_9 : w8.heap.size < w9.heap.size := cell_lt BF0_9
  go_wp2_with fail
  refine (k10 _).mono ?_
  rintro e w10 ⟨rfl, hb10⟩
  have hbw10 : Below w.heap.size w w10 := by refine Below.trans ?_ (hb10.mono (by first | exact Nat.le_refl _ | (simp; done) | (simp; omega) | omega)); exact (by repeat (first | exact Below.refl _ _ | with_reducible assumption | refine Below.alloc ?_ (by first | exact Nat.le_refl _ | (simp; done) | (simp; omega) | omega) _ | refine Below.setCell ?_ (by first | exact Nat.le_refl _ | (simp; done) | (simp; omega) | omega) _ | refine Below.drew ?_ | refine bdrewN ?_ _))
  have hz10 := hbw10.size
  have BA0_10 : w10.cell? ⟨w2.heap.size, 0, none⟩ = some (.int .i64 P1) := keepcell hb10 (by first | exact BA0_9 | exact keepalloc BA0_9 | exact keepalloc (keepalloc BA0_9) | exact keepset (by omega) BA0_9 | (simp [go_sem, BA0_9, Nat.ne_of_lt, Nat.ne_of_gt]; done))
  have BA1_10 : w10.cell? ⟨w2.heap.size, 1, none⟩ = some (.int .i64 P2) := keepcell hb10 (by first | exact BA1_9 | exact keepalloc BA1_9 | exact keepalloc (keepalloc BA1_9) | exact keepset (by omega) BA1_9 | (simp [go_sem, BA1_9, Nat.ne_of_lt, Nat.ne_of_gt]; done))
  have BAz_10 : w2.heap.size < w10.heap.size := cell_lt BA0_10
  have BB0_10 : w10.cell? ⟨w2.heap.size + 1, 0, none⟩ = some (.int .i64 0) := keepcell hb10 (by first | exact BB0_9 | exact keepalloc BB0_9 | exact keepalloc (keepalloc BB0_9) | exact keepset (by omega) BB0_9 | (simp [go_sem, BB0_9, Nat.ne_of_lt, Nat.ne_of_gt]; done))
  have BB1_10 : w10.cell? ⟨w2.heap.size + 1, 1, none⟩ = some (.int .i64 R2) := keepcell hb10 (by first | exact BB1_9 | exact keepalloc BB1_9 | exact keepalloc (keepalloc BB1_9) | exact keepset (by omega) BB1_9 | (simp [go_sem, BB1_9, Nat.ne_of_lt, Nat.ne_of_gt]; done))
  have BBz_10 : w2.heap.size + 1 < w10.heap.size := cell_lt BB0_10
  have BC0_10 : w10.cell? ⟨w3.heap.size, 0, none⟩ = some (.int .i64 T1) := keepcell hb10 (by first | exact BC0_9 | exact keepalloc BC0_9 | exact keepalloc (keepalloc BC0_9) | exact keepset (by omega) BC0_9 | (simp [go_sem, BC0_9, Nat.ne_of_lt, Nat.ne_of_gt]; done))
  have BC1_10 : w10.cell? ⟨w3.heap.size, 1, none⟩ = some (.int .i64 T2) := keepcell hb10 (by first | exact BC1_9 | exact keepalloc BC1_9 | exact keepalloc (keepalloc BC1_9) | exact keepset (by omega) BC1_9 | (simp [go_sem, BC1_9, Nat.ne_of_lt, Nat.ne_of_gt]; done))
  have BCz_10 : w3.heap.size < w10.heap.size := cell_lt BC0_10
  have BX0_10 : w10.cell? ⟨w4.heap.size, 0, none⟩ = some (.int .i64 x1) := keepcell hb10 (by first | exact BX0_9 | exact keepalloc BX0_9 | exact keepalloc (keepalloc BX0_9) | exact keepset (by omega) BX0_9 | (simp [go_sem, BX0_9, Nat.ne_of_lt, Nat.ne_of_gt]; done))
  have BX1_10 : w10.cell? ⟨w4.heap.size, 1, none⟩ = some (.int .i64 x2) := keepcell hb10 (by first | exact BX1_9 | exact keepalloc BX1_9 | exact keepalloc (keepalloc BX1_9) | exact keepset (by omega) BX1_9 | (simp [go_sem, BX1_9, Nat.ne_of_lt, Nat.ne_of_gt]; done))
  have BXz_10 : w4.heap.size < w10.heap.size := cell_lt BX0_10
  have BF0_10 : w10.cell? ⟨w8.heap.size, 0, none⟩ = some (.int .i64 y1) := keepcell hb10 (by first | exact BF0_9 | exact keepalloc BF0_9 | exact keepalloc (keepalloc BF0_9) | exact keepset (by omega) BF0_9 | (simp [go_sem, BF0_9, Nat.ne_of_lt, Nat.ne_of_gt]; done))
  have BF1_10 : w10.cell? ⟨w8.heap.size, 1, none⟩ = some (.int .i64 y2) := keepcell hb10 (by first | exact BF1_9 | exact keepalloc BF1_9 | exact keepalloc (keepalloc BF1_9) | exact keepset (by omega) BF1_9 | (simp [go_sem, BF1_9, Nat.ne_of_lt, Nat.ne_of_gt]; done))
  have BFz_10 : w8.heap.size < w10.heap.size := cell_lt BF0_10
  have BM0_10 : w10.cell? ⟨w9.heap.size, 0, none⟩ = some (.int .i64 m1) := keepcell hb10 (by simp [go_sem]; done)
  have BM1_10 : w10.cell? ⟨w9.heap.size, 1, none⟩ = some (.int .i64 m2) := keepcell hb10 (by simp [go_sem]; done)
  have BMz_10 : w9.heap.size < w10.heap.size := cell_lt BM0_10
  go_wp2_with fail
  refine (k11 _).mono ?_
  rintro e w11 ⟨rfl, hb11⟩
  have hbw11 : Below w.heap.size w w11 := by refine Below.trans ?_ (hb11.mono (by first | exact Nat.le_refl _ | (simp; done) | (simp; omega) | omega)); exact (by repeat (first | exact Below.refl _ _ | with_reducible assumption | refine Below.alloc ?_ (by first | exact Nat.le_refl _ | (simp; done) | (simp; omega) | omega) _ | refine Below.setCell ?_ (by first | exact Nat.le_refl _ | (simp; done) | (simp; omega) | omega) _ | refine Below.drew ?_ | refine bdrewN ?_ _))
  have hz11 := hbw11.size
  have BA0_11 : w11.cell? ⟨w2.heap.size, 0, none⟩ = some (.int .i64 P1) := keepcell hb11 (by first | exact BA0_10 | exact keepalloc BA0_10 | exact keepalloc (keepalloc BA0_10) | exact keepset (by omega) BA0_10 | (simp [go_sem, BA0_10, Nat.ne_of_lt, Nat.ne_of_gt]; done))
  have BA1_11 : w11.cell? ⟨w2.heap.size, 1, none⟩ = some (.int .i64 P2) := keepcell hb11 (by first | exact BA1_10 | exact keepalloc BA1_10 | exact keepalloc (keepalloc BA1_10) | exact keepset (by omega) BA1_10 | (simp [go_sem, BA1_10, Nat.ne_of_lt, Nat.ne_of_gt]; done))
  have BAz_11 : w2.heap.size < w11.heap.size := cell_lt BA0_11
  have BB0_11 : w11.cell? ⟨w2.heap.size + 1, 0, none⟩ = some (.int .i64 0) := keepcell hb11 (by first | exact BB0_10 | exact keepalloc BB0_10 | exact keepalloc (keepalloc BB0_10) | exact keepset (by omega) BB0_10 | (simp [go_sem, BB0_10, Nat.ne_of_lt, Nat.ne_of_gt]; done))
  have BB1_11 : w11.cell? ⟨w2.heap.size + 1, 1, none⟩ = some (.int .i64 R2) := keepcell hb11 (by first | exact BB1_10 | exact keepalloc BB1_10 | exact keepalloc (keepalloc BB1_10) | exact keepset (by omega) BB1_10 | (simp [go_sem, BB1_10, Nat.ne_of_lt, Nat.ne_of_gt]; done))
  have BBz_11 : w2.heap.size + 1 < w11.heap.size := cell_lt BB0_11
  have BC0_11 : w11.cell? ⟨w3.heap.size, 0, none⟩ = some (.int .i64 T1) := keepcell hb11 (by first | exact BC0_10 | exact keepalloc BC0_10 | exact keepalloc (keepalloc BC0_10) | exact keepset (by omega) BC0_10 | (simp [go_sem, BC0_10, Nat.ne_of_lt, Nat.ne_of_gt]; done))
  have BC1_11 : w11.cell? ⟨w3.heap.size, 1, none⟩ = some (.int .i64 T2) := keepcell hb11 (by first | exact BC1_10 | exact keepalloc BC1_10 | exact keepalloc (keepalloc BC1_10) | exact keepset (by omega) BC1_10 | (simp [go_sem, BC1_10, Nat.ne_of_lt, Nat.ne_of_gt]; done))
  have BCz_11 : w3.heap.size < w11.heap.size := cell_lt BC0_11
  have BF0_11 : w11.cell? ⟨w8.heap.size, 0, none⟩ = some (.int .i64 y1) := keepcell hb11 (by first | exact BF0_10 | exact keepalloc BF0_10 | exact keepalloc (keepalloc BF0_10) | exact keepset (by omega) BF0_10 | (simp [go_sem, BF0_10, Nat.ne_of_lt, Nat.ne_of_gt]; done))
  have BF1_11 : w11.cell? ⟨w8.heap.size, 1, none⟩ = some (.int .i64 y2) := keepcell hb11 (by first | exact BF1_10 | exact keepalloc BF1_10 | exact keepalloc (keepalloc BF1_10) | exact keepset (by omega) BF1_10 | (simp [go_sem, BF1_10, Nat.ne_of_lt, Nat.ne_of_gt]; done))
  have BFz_11 : w8.heap.size < w11.heap.size := cell_lt BF0_11
  have BM0_11 : w11.cell? ⟨w9.heap.size, 0, none⟩ = some (.int .i64 m1) := keepcell hb11 (by first | exact BM0_10 | exact keepalloc BM0_10 | exact keepalloc (keepalloc BM0_10) | exact keepset (by omega) BM0_10 | (simp [go_sem, BM0_10, Nat.ne_of_lt, Nat.ne_of_gt]; done))
  have BM1_11 : w11.cell? ⟨w9.heap.size, 1, none⟩ = some (.int .i64 m2) := keepcell hb11 (by first | exact BM1_10 | exact keepalloc BM1_10 | exact keepalloc (keepalloc BM1_10) | exact keepset (by omega) BM1_10 | (simp [go_sem, BM1_10, Nat.ne_of_lt, Nat.ne_of_gt]; done))
  have BMz_11 : w9.heap.size < w11.heap.size := cell_lt BM0_11
  have BN0_11 : w11.cell? ⟨w10.heap.size, 0, none⟩ = some (.int .i64 n1) := keepcell hb11 (by simp [go_sem]; done)
  have BN1_11 : w11.cell? ⟨w10.heap.size, 1, none⟩ = some (.int .i64 n2) := keepcell hb11 (by simp [go_sem]; done)
  have BNz_11 : w10.heap.size < w11.heap.size := cell_lt BN0_11
  all_goals (
    go_wp2
    go_ret
    exact ⟨rfl, (by repeat (first | exact Below.refl _ _ | with_reducible assumption | refine Below.alloc ?_ (by first | exact Nat.le_refl _ | (simp; done) | (simp; omega) | omega) _ | refine Below.setCell ?_ (by first | exact Nat.le_refl _ | (simp; done) | (simp; omega) | omega) _ | refine Below.drew ?_ | refine bdrewN ?_ _))⟩)
end Go.Proofs.Ytnggikhpnophgaa.Given
