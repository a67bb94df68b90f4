/- ashlarlaw01.shown: what must be in any case. -/
import Derived.Test.YtoodfkbciodapaaNumGivenA
namespace Go.Proofs.Ytoodfkbciodapaa.Given
open Go.RowKit Go.Proofs.Ytoodfkbciodapaa.Num
set_option linter.unusedVariables false
set_option linter.unusedSimpArgs false

theorem c1 (w : World) : Calls Try.prog 16 #[.int .i64 1, .int .i64 2] w fun e w' => e = .returned (.tuple #[.agg #[.int .i64 1, .int .i64 2], .bool true]) ∧ Below w.heap.size w w' := num_Make.calls 1 2 1 2 true w (by decide +kernel)
theorem c2 (w : World) : Calls Try.prog 16 #[.int .i64 (-2), .int .i64 (-6)] w fun e w' => e = .returned (.tuple #[.agg #[.int .i64 1, .int .i64 3], .bool true]) ∧ Below w.heap.size w w' := num_Make.calls (-2) (-6) 1 3 true w (by decide +kernel)
theorem c3 (w : World) : Calls Try.prog 6 #[.agg #[.int .i64 1, .int .i64 2], .agg #[.int .i64 1, .int .i64 3]] w fun e w' => e = .returned (.tuple #[.agg #[.int .i64 5, .int .i64 6], .bool true]) ∧ Below w.heap.size w w' := Plus_of 1 2 1 3 (5, 6, true) w (fun W => sum_small 1 2 1 3 false W (by decide) (by decide) (by decide +kernel) (by decide +kernel))
theorem c4 (w : World) : Calls Try.prog 17 #[.int .i64 4611686018427387904, .int .i64 4611686018427387904] w fun e w' => e = .returned (.tuple #[.int .i64 0, .bool false]) ∧ Below w.heap.size w w' := num_Add.calls _ _ 0 false w (by decide +kernel)
theorem c5 (w : World) : Calls Try.prog 16 #[.int .i64 1, .int .i64 0] w fun e w' => e = .returned (.tuple #[.agg #[.int .i64 0, .int .i64 0], .bool false]) ∧ Below w.heap.size w w' := num_Make.calls 1 0 0 0 false w (by decide +kernel)
theorem c6 (w : World) : Calls Try.prog 18 #[.int .i64 (-9223372036854775808), .int .i64 0] w fun e w' => e = .returned (.tuple #[.int .i64 0, .bool false]) ∧ Below w.heap.size w w' := num_Gcd.calls _ _ 0 false w (by decide +kernel)
theorem c7 (w : World) : Calls Try.prog 19 #[.int .i64 5] w fun e w' => e = .returned (.tuple #[.int .i64 (-5), .bool true]) ∧ Below w.heap.size w w' := num_Neg.calls 5 (-5) true w (by decide +kernel)
theorem c8 (w : World) : Calls Try.prog 14 #[.agg #[.int .i64 1, .int .i64 2], .agg #[.int .i64 1, .int .i64 3]] w fun e w' => e = .returned (.int .i64 1) ∧ Below w.heap.size w w' := num_Rat_Cmp.calls 1 2 1 3 1 w (by decide +kernel)
theorem c9 (w : World) : Calls Try.prog 20 #[.agg #[.int .i64 1, .int .i64 2]] w fun e w' => e = .returned (.int .i64 0) ∧ Below w.heap.size w w' := by
  go_enter Try.func20, Try.ntmps20
  go_wp2_with fail
  refine (right_any _ _ _).mono ?_
  rintro e w1 ⟨rfl, rfl⟩
  go_wp2
  go_ret
  exact ⟨rfl, (by repeat (first | exact Below.refl _ _ | with_reducible assumption | refine Below.alloc ?_ (by first | exact Nat.le_refl _ | (simp; done) | (simp; omega) | omega) _ | refine Below.setCell ?_ (by first | exact Nat.le_refl _ | (simp; done) | (simp; omega) | omega) _ | refine Below.drew ?_ | refine bdrewN ?_ _))⟩
theorem c10 (w : World) : Calls Try.prog 21 #[.agg #[.int .i64 1, .int .i64 2]] w fun e w' => e = .returned (.int .i64 1) ∧ Below w.heap.size w w' := by
  go_enter Try.func21, Try.ntmps21
  go_wp2_with fail
  refine (c9 _).mono ?_
  rintro e w1 ⟨rfl, hb1⟩
  have h0 : w1.cell? ⟨w.heap.size, 0, none⟩ = some (.int .i64 1) := keepcell hb1 (by simp [go_sem])
  have h1 : w1.cell? ⟨w.heap.size, 1, none⟩ = some (.int .i64 2) := keepcell hb1 (by simp [go_sem])
  have hbw : Below w.heap.size w w1 := by refine Below.trans ?_ (hb1.mono (by first | exact Nat.le_refl _ | (simp; done) | (simp; omega) | omega)); exact (by repeat (first | exact Below.refl _ _ | with_reducible assumption | refine Below.alloc ?_ (by first | exact Nat.le_refl _ | (simp; done) | (simp; omega) | omega) _ | refine Below.setCell ?_ (by first | exact Nat.le_refl _ | (simp; done) | (simp; omega) | omega) _ | refine Below.drew ?_ | refine bdrewN ?_ _))
  have hz : w.heap.size < w1.heap.size := by have := hb1.size; simp at this; omega
  go_wp2_with fail
  refine (right_any _ _ _).mono ?_
  rintro e w2 ⟨rfl, rfl⟩
  go_wp2
  go_ret
  exact ⟨rfl, (by repeat (first | exact Below.refl _ _ | with_reducible assumption | refine Below.alloc ?_ (by first | exact Nat.le_refl _ | (simp; done) | (simp; omega) | omega) _ | refine Below.setCell ?_ (by first | exact Nat.le_refl _ | (simp; done) | (simp; omega) | omega) _ | refine Below.drew ?_ | refine bdrewN ?_ _))⟩

set_option maxHeartbeats 4000000 in
theorem shown_any (w : World) : Calls Try.prog 4 #[] w fun e w' => e = .returned (.bool true) ∧ Below w.heap.size w w' := by
  go_enter Try.func4, Try.ntmps4
  go_wp2_with fail
  refine (c1 _).mono ?_
  rintro e w1 ⟨rfl, hb1⟩
  have hbw1 : Below w.heap.size w w1 := by refine Below.trans ?_ (hb1.mono (by first | exact Nat.le_refl _ | (simp; done) | (simp; omega) | omega)); exact (by repeat (first | exact Below.refl _ _ | with_reducible assumption | refine Below.alloc ?_ (by first | exact Nat.le_refl _ | (simp; done) | (simp; omega) | omega) _ | refine Below.setCell ?_ (by first | exact Nat.le_refl _ | (simp; done) | (simp; omega) | omega) _ | refine Below.drew ?_ | refine bdrewN ?_ _))
  have hz1 := hbw1.size
  go_wp2_with fail
  refine (c2 _).mono ?_
  rintro e w2 ⟨rfl, hb2⟩
  have hbw2 : Below w.heap.size w w2 := by refine Below.trans ?_ (hb2.mono (by first | exact Nat.le_refl _ | (simp; done) | (simp; omega) | omega)); exact (by repeat (first | exact Below.refl _ _ | with_reducible assumption | refine Below.alloc ?_ (by first | exact Nat.le_refl _ | (simp; done) | (simp; omega) | omega) _ | refine Below.setCell ?_ (by first | exact Nat.le_refl _ | (simp; done) | (simp; omega) | omega) _ | refine Below.drew ?_ | refine bdrewN ?_ _))
  have hz2 := hbw2.size
  have A0_2 : w2.cell? ⟨w1.heap.size, 0, none⟩ = some (.int .i64 1) := keepcell hb2 (by simp [go_sem]; done)
  have A1_2 : w2.cell? ⟨w1.heap.size, 1, none⟩ = some (.int .i64 2) := keepcell hb2 (by simp [go_sem]; done)
  have Az_2 : w1.heap.size < w2.heap.size := cell_lt A0_2
  go_wp2_with fail
  refine (c3 _).mono ?_
  rintro e w3 ⟨rfl, hb3⟩
  have hbw3 : Below w.heap.size w w3 := by refine Below.trans ?_ (hb3.mono (by first | exact Nat.le_refl _ | (simp; done) | (simp; omega) | omega)); exact (by repeat (first | exact Below.refl _ _ | with_reducible assumption | refine Below.alloc ?_ (by first | exact Nat.le_refl _ | (simp; done) | (simp; omega) | omega) _ | refine Below.setCell ?_ (by first | exact Nat.le_refl _ | (simp; done) | (simp; omega) | omega) _ | refine Below.drew ?_ | refine bdrewN ?_ _))
  have hz3 := hbw3.size
  have A0_3 : w3.cell? ⟨w1.heap.size, 0, none⟩ = some (.int .i64 1) := keepcell hb3 (by first | exact A0_2 | exact keepalloc A0_2)
  have A1_3 : w3.cell? ⟨w1.heap.size, 1, none⟩ = some (.int .i64 2) := keepcell hb3 (by first | exact A1_2 | exact keepalloc A1_2)
  have Az_3 : w1.heap.size < w3.heap.size := cell_lt A0_3
  have B0_3 : w3.cell? ⟨w2.heap.size, 0, none⟩ = some (.int .i64 1) := keepcell hb3 (by simp [go_sem]; done)
  have B1_3 : w3.cell? ⟨w2.heap.size, 1, none⟩ = some (.int .i64 3) := keepcell hb3 (by simp [go_sem]; done)
  have Bz_3 : w2.heap.size < w3.heap.size := cell_lt B0_3
  go_wp2_with fail
  refine (c4 _).mono ?_
  rintro e w4 ⟨rfl, hb4⟩
  have hbw4 : Below w.heap.size w w4 := by refine Below.trans ?_ (hb4.mono (by first | exact Nat.le_refl _ | (simp; done) | (simp; omega) | omega)); exact (by repeat (first | exact Below.refl _ _ | with_reducible assumption | refine Below.alloc ?_ (by first | exact Nat.le_refl _ | (simp; done) | (simp; omega) | omega) _ | refine Below.setCell ?_ (by first | exact Nat.le_refl _ | (simp; done) | (simp; omega) | omega) _ | refine Below.drew ?_ | refine bdrewN ?_ _))
  have hz4 := hbw4.size
  have A0_4 : w4.cell? ⟨w1.heap.size, 0, none⟩ = some (.int .i64 1) := keepcell hb4 (by first | exact A0_3 | exact keepalloc A0_3)
  have A1_4 : w4.cell? ⟨w1.heap.size, 1, none⟩ = some (.int .i64 2) := keepcell hb4 (by first | exact A1_3 | exact keepalloc A1_3)
  have Az_4 : w1.heap.size < w4.heap.size := cell_lt A0_4
  have B0_4 : w4.cell? ⟨w2.heap.size, 0, none⟩ = some (.int .i64 1) := keepcell hb4 (by first | exact B0_3 | exact keepalloc B0_3)
  have B1_4 : w4.cell? ⟨w2.heap.size, 1, none⟩ = some (.int .i64 3) := keepcell hb4 (by first | exact B1_3 | exact keepalloc B1_3)
  have Bz_4 : w2.heap.size < w4.heap.size := cell_lt B0_4
  have C0_4 : w4.cell? ⟨w3.heap.size, 0, none⟩ = some (.int .i64 5) := keepcell hb4 (by simp [go_sem]; done)
  have C1_4 : w4.cell? ⟨w3.heap.size, 1, none⟩ = some (.int .i64 6) := keepcell hb4 (by simp [go_sem]; done)
  have Cz_4 : w3.heap.size < w4.heap.size := cell_lt C0_4
  go_wp2_with fail
  refine (c5 _).mono ?_
  rintro e w5 ⟨rfl, hb5⟩
  have hbw5 : Below w.heap.size w w5 := by refine Below.trans ?_ (hb5.mono (by first | exact Nat.le_refl _ | (simp; done) | (simp; omega) | omega)); exact (by repeat (first | exact Below.refl _ _ | with_reducible assumption | refine Below.alloc ?_ (by first | exact Nat.le_refl _ | (simp; done) | (simp; omega) | omega) _ | refine Below.setCell ?_ (by first | exact Nat.le_refl _ | (simp; done) | (simp; omega) | omega) _ | refine Below.drew ?_ | refine bdrewN ?_ _))
  have hz5 := hbw5.size
  have A0_5 : w5.cell? ⟨w1.heap.size, 0, none⟩ = some (.int .i64 1) := keepcell hb5 (by first | exact A0_4 | exact keepalloc A0_4)
  have A1_5 : w5.cell? ⟨w1.heap.size, 1, none⟩ = some (.int .i64 2) := keepcell hb5 (by first | exact A1_4 | exact keepalloc A1_4)
  have Az_5 : w1.heap.size < w5.heap.size := cell_lt A0_5
  have B0_5 : w5.cell? ⟨w2.heap.size, 0, none⟩ = some (.int .i64 1) := keepcell hb5 (by first | exact B0_4 | exact keepalloc B0_4)
  have B1_5 : w5.cell? ⟨w2.heap.size, 1, none⟩ = some (.int .i64 3) := keepcell hb5 (by first | exact B1_4 | exact keepalloc B1_4)
  have Bz_5 : w2.heap.size < w5.heap.size := cell_lt B0_5
  have C0_5 : w5.cell? ⟨w3.heap.size, 0, none⟩ = some (.int .i64 5) := keepcell hb5 (by first | exact C0_4 | exact keepalloc C0_4)
  have C1_5 : w5.cell? ⟨w3.heap.size, 1, none⟩ = some (.int .i64 6) := keepcell hb5 (by first | exact C1_4 | exact keepalloc C1_4)
  have Cz_5 : w3.heap.size < w5.heap.size := cell_lt C0_5
  go_wp2_with fail
  refine (c6 _).mono ?_
  rintro e w6 ⟨rfl, hb6⟩
  have hbw6 : Below w.heap.size w w6 := by refine Below.trans ?_ (hb6.mono (by first | exact Nat.le_refl _ | (simp; done) | (simp; omega) | omega)); exact (by repeat (first | exact Below.refl _ _ | with_reducible assumption | refine Below.alloc ?_ (by first | exact Nat.le_refl _ | (simp; done) | (simp; omega) | omega) _ | refine Below.setCell ?_ (by first | exact Nat.le_refl _ | (simp; done) | (simp; omega) | omega) _ | refine Below.drew ?_ | refine bdrewN ?_ _))
  have hz6 := hbw6.size
  have A0_6 : w6.cell? ⟨w1.heap.size, 0, none⟩ = some (.int .i64 1) := keepcell hb6 (by first | exact A0_5 | exact keepalloc A0_5)
  have A1_6 : w6.cell? ⟨w1.heap.size, 1, none⟩ = some (.int .i64 2) := keepcell hb6 (by first | exact A1_5 | exact keepalloc A1_5)
  have Az_6 : w1.heap.size < w6.heap.size := cell_lt A0_6
  have B0_6 : w6.cell? ⟨w2.heap.size, 0, none⟩ = some (.int .i64 1) := keepcell hb6 (by first | exact B0_5 | exact keepalloc B0_5)
  have B1_6 : w6.cell? ⟨w2.heap.size, 1, none⟩ = some (.int .i64 3) := keepcell hb6 (by first | exact B1_5 | exact keepalloc B1_5)
  have Bz_6 : w2.heap.size < w6.heap.size := cell_lt B0_6
  have C0_6 : w6.cell? ⟨w3.heap.size, 0, none⟩ = some (.int .i64 5) := keepcell hb6 (by first | exact C0_5 | exact keepalloc C0_5)
  have C1_6 : w6.cell? ⟨w3.heap.size, 1, none⟩ = some (.int .i64 6) := keepcell hb6 (by first | exact C1_5 | exact keepalloc C1_5)
  have Cz_6 : w3.heap.size < w6.heap.size := cell_lt C0_6
  go_wp2_with fail
  refine (c7 _).mono ?_
  rintro e w7 ⟨rfl, hb7⟩
  have hbw7 : Below w.heap.size w w7 := by refine Below.trans ?_ (hb7.mono (by first | exact Nat.le_refl _ | (simp; done) | (simp; omega) | omega)); exact (by repeat (first | exact Below.refl _ _ | with_reducible assumption | refine Below.alloc ?_ (by first | exact Nat.le_refl _ | (simp; done) | (simp; omega) | omega) _ | refine Below.setCell ?_ (by first | exact Nat.le_refl _ | (simp; done) | (simp; omega) | omega) _ | refine Below.drew ?_ | refine bdrewN ?_ _))
  have hz7 := hbw7.size
  have A0_7 : w7.cell? ⟨w1.heap.size, 0, none⟩ = some (.int .i64 1) := keepcell hb7 (by first | exact A0_6 | exact keepalloc A0_6)
  have A1_7 : w7.cell? ⟨w1.heap.size, 1, none⟩ = some (.int .i64 2) := keepcell hb7 (by first | exact A1_6 | exact keepalloc A1_6)
  have Az_7 : w1.heap.size < w7.heap.size := cell_lt A0_7
  have B0_7 : w7.cell? ⟨w2.heap.size, 0, none⟩ = some (.int .i64 1) := keepcell hb7 (by first | exact B0_6 | exact keepalloc B0_6)
  have B1_7 : w7.cell? ⟨w2.heap.size, 1, none⟩ = some (.int .i64 3) := keepcell hb7 (by first | exact B1_6 | exact keepalloc B1_6)
  have Bz_7 : w2.heap.size < w7.heap.size := cell_lt B0_7
  have C0_7 : w7.cell? ⟨w3.heap.size, 0, none⟩ = some (.int .i64 5) := keepcell hb7 (by first | exact C0_6 | exact keepalloc C0_6)
  have C1_7 : w7.cell? ⟨w3.heap.size, 1, none⟩ = some (.int .i64 6) := keepcell hb7 (by first | exact C1_6 | exact keepalloc C1_6)
  have Cz_7 : w3.heap.size < w7.heap.size := cell_lt C0_7
  go_wp2_with fail
  refine (c8 _).mono ?_
  rintro e w8 ⟨rfl, hb8⟩
  have hbw8 : Below w.heap.size w w8 := by refine Below.trans ?_ (hb8.mono (by first | exact Nat.le_refl _ | (simp; done) | (simp; omega) | omega)); exact (by repeat (first | exact Below.refl _ _ | with_reducible assumption | refine Below.alloc ?_ (by first | exact Nat.le_refl _ | (simp; done) | (simp; omega) | omega) _ | refine Below.setCell ?_ (by first | exact Nat.le_refl _ | (simp; done) | (simp; omega) | omega) _ | refine Below.drew ?_ | refine bdrewN ?_ _))
  have hz8 := hbw8.size
  have A0_8 : w8.cell? ⟨w1.heap.size, 0, none⟩ = some (.int .i64 1) := keepcell hb8 (by first | exact A0_7 | exact keepalloc A0_7)
  have A1_8 : w8.cell? ⟨w1.heap.size, 1, none⟩ = some (.int .i64 2) := keepcell hb8 (by first | exact A1_7 | exact keepalloc A1_7)
  have Az_8 : w1.heap.size < w8.heap.size := cell_lt A0_8
  have B0_8 : w8.cell? ⟨w2.heap.size, 0, none⟩ = some (.int .i64 1) := keepcell hb8 (by first | exact B0_7 | exact keepalloc B0_7)
  have B1_8 : w8.cell? ⟨w2.heap.size, 1, none⟩ = some (.int .i64 3) := keepcell hb8 (by first | exact B1_7 | exact keepalloc B1_7)
  have Bz_8 : w2.heap.size < w8.heap.size := cell_lt B0_8
  have C0_8 : w8.cell? ⟨w3.heap.size, 0, none⟩ = some (.int .i64 5) := keepcell hb8 (by first | exact C0_7 | exact keepalloc C0_7)
  have C1_8 : w8.cell? ⟨w3.heap.size, 1, none⟩ = some (.int .i64 6) := keepcell hb8 (by first | exact C1_7 | exact keepalloc C1_7)
  have Cz_8 : w3.heap.size < w8.heap.size := cell_lt C0_8
  go_wp2_with fail
  refine (c9 _).mono ?_
  rintro e w9 ⟨rfl, hb9⟩
  have hbw9 : Below w.heap.size w w9 := by refine Below.trans ?_ (hb9.mono (by first | exact Nat.le_refl _ | (simp; done) | (simp; omega) | omega)); exact (by repeat (first | exact Below.refl _ _ | with_reducible assumption | refine Below.alloc ?_ (by first | exact Nat.le_refl _ | (simp; done) | (simp; omega) | omega) _ | refine Below.setCell ?_ (by first | exact Nat.le_refl _ | (simp; done) | (simp; omega) | omega) _ | refine Below.drew ?_ | refine bdrewN ?_ _))
  have hz9 := hbw9.size
  have A0_9 : w9.cell? ⟨w1.heap.size, 0, none⟩ = some (.int .i64 1) := keepcell hb9 (by first | exact A0_8 | exact keepalloc A0_8)
  have A1_9 : w9.cell? ⟨w1.heap.size, 1, none⟩ = some (.int .i64 2) := keepcell hb9 (by first | exact A1_8 | exact keepalloc A1_8)
  have Az_9 : w1.heap.size < w9.heap.size := cell_lt A0_9
  have B0_9 : w9.cell? ⟨w2.heap.size, 0, none⟩ = some (.int .i64 1) := keepcell hb9 (by first | exact B0_8 | exact keepalloc B0_8)
  have B1_9 : w9.cell? ⟨w2.heap.size, 1, none⟩ = some (.int .i64 3) := keepcell hb9 (by first | exact B1_8 | exact keepalloc B1_8)
  have Bz_9 : w2.heap.size < w9.heap.size := cell_lt B0_9
  have C0_9 : w9.cell? ⟨w3.heap.size, 0, none⟩ = some (.int .i64 5) := keepcell hb9 (by first | exact C0_8 | exact keepalloc C0_8)
  have C1_9 : w9.cell? ⟨w3.heap.size, 1, none⟩ = some (.int .i64 6) := keepcell hb9 (by first | exact C1_8 | exact keepalloc C1_8)
  have Cz_9 : w3.heap.size < w9.heap.size := cell_lt C0_9
  go_wp2_with fail
  refine (c10 _).mono ?_
  rintro e w10 ⟨rfl, hb10⟩
  have hbw10 : Below w.heap.size w w10 := by refine Below.trans ?_ (hb10.mono (by first | exact Nat.le_refl _ | (simp; done) | (simp; omega) | omega)); exact (by repeat (first | exact Below.refl _ _ | with_reducible assumption | refine Below.alloc ?_ (by first | exact Nat.le_refl _ | (simp; done) | (simp; omega) | omega) _ | refine Below.setCell ?_ (by first | exact Nat.le_refl _ | (simp; done) | (simp; omega) | omega) _ | refine Below.drew ?_ | refine bdrewN ?_ _))
  have hz10 := hbw10.size
  have A0_10 : w10.cell? ⟨w1.heap.size, 0, none⟩ = some (.int .i64 1) := keepcell hb10 (by first | exact A0_9 | exact keepalloc A0_9)
  have A1_10 : w10.cell? ⟨w1.heap.size, 1, none⟩ = some (.int .i64 2) := keepcell hb10 (by first | exact A1_9 | exact keepalloc A1_9)
  have Az_10 : w1.heap.size < w10.heap.size := cell_lt A0_10
  have B0_10 : w10.cell? ⟨w2.heap.size, 0, none⟩ = some (.int .i64 1) := keepcell hb10 (by first | exact B0_9 | exact keepalloc B0_9)
  have B1_10 : w10.cell? ⟨w2.heap.size, 1, none⟩ = some (.int .i64 3) := keepcell hb10 (by first | exact B1_9 | exact keepalloc B1_9)
  have Bz_10 : w2.heap.size < w10.heap.size := cell_lt B0_10
  have C0_10 : w10.cell? ⟨w3.heap.size, 0, none⟩ = some (.int .i64 5) := keepcell hb10 (by first | exact C0_9 | exact keepalloc C0_9)
  have C1_10 : w10.cell? ⟨w3.heap.size, 1, none⟩ = some (.int .i64 6) := keepcell hb10 (by first | exact C1_9 | exact keepalloc C1_9)
  have Cz_10 : w3.heap.size < w10.heap.size := cell_lt C0_10
  go_wp2_with fail
  refine (Whole_any _ _).mono ?_
  rintro e w11 ⟨rfl, hb11⟩
  have hbw11 : Below w.heap.size w w11 := by refine Below.trans ?_ (hb11.mono (by first | exact Nat.le_refl _ | (simp; done) | (simp; omega) | omega)); exact (by repeat (first | exact Below.refl _ _ | with_reducible assumption | refine Below.alloc ?_ (by first | exact Nat.le_refl _ | (simp; done) | (simp; omega) | omega) _ | refine Below.setCell ?_ (by first | exact Nat.le_refl _ | (simp; done) | (simp; omega) | omega) _ | refine Below.drew ?_ | refine bdrewN ?_ _))
  have hz11 := hbw11.size
  go_wp2
  go_ret
  exact ⟨rfl, (by repeat (first | exact Below.refl _ _ | with_reducible assumption | refine Below.alloc ?_ (by first | exact Nat.le_refl _ | (simp; done) | (simp; omega) | omega) _ | refine Below.setCell ?_ (by first | exact Nat.le_refl _ | (simp; done) | (simp; omega) | omega) _ | refine Below.drew ?_ | refine bdrewN ?_ _))⟩

def ashlarlaw01_shown.f : Option Bool := some true
theorem ashlarlaw01_shown.calls (r : Bool) (w : World) (h : ashlarlaw01_shown.f = some r) : Calls Try.prog 4 #[] w fun e w' => e = .returned (.bool r) ∧ Below w.heap.size w w' := by
  rw [← Option.some.inj h]
  exact shown_any w
end Go.Proofs.Ytoodfkbciodapaa.Given
