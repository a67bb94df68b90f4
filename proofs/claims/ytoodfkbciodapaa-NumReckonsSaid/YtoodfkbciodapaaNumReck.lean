/- The walk of NumReckons. -/
import Derived.Test.YtoodfkbciodapaaNumP
import Derived.Test.YtoodfkbciodapaaNumRats
namespace Go.Proofs.Ytoodfkbciodapaa.Given
open Go.RowKit Go.Proofs.Ytoodfkbciodapaa.Num
set_option linter.unusedVariables false
set_option linter.unusedSimpArgs false

theorem alw {w W : World} (h : Below w.heap.size w W) (o : Obj) : Below w.heap.size w (W.alloc o) := h.alloc h.size o
theorem alD {w W : World} (h : Below w.heap.size w W) : Below w.heap.size w W.drew := h.drew
set_option maxHeartbeats 4000000 in
theorem same_any (a b : Int) (o : Bool) (w : World) : Calls Try.prog 11 #[.agg #[.int .i64 a, .int .i64 b], .bool o, .int .i64 a, .int .i64 b, .bool o] w fun e w' => e = .returned (.bool true) ∧ Below w.heap.size w w' := by
  go_enter Try.func11, Try.ntmps11
  go_wp2
  go_ret
  exact ⟨rfl, (by repeat (first | exact Below.refl _ _ | with_reducible assumption | refine Below.alloc ?_ (by first | exact Nat.le_refl _ | (simp; done) | (simp; omega) | omega) _ | refine Below.setCell ?_ (by first | exact Nat.le_refl _ | (simp; done) | (simp; omega) | omega) _ | refine Below.drew ?_ | refine bdrewN ?_ _))⟩

set_option maxHeartbeats 16000000 in
set_option maxRecDepth 100000 in
theorem reck_walk (p q r s : Int) {P1 P2 R1 R2 c1 c2 d1 d2 e1 e2 f1 f2 z : Int} {C D E F : Bool} (w : World)
    (k0 : ∀ w, Calls Try.prog 5 #[.int .i64 p, .int .i64 q, .int .i64 r, .int .i64 s] w fun e w' => e = .returned (.tuple #[.agg #[.int .i64 P1, .int .i64 P2], .agg #[.int .i64 R1, .int .i64 R2], .bool true]) ∧ Below w.heap.size w w')
    (k1 : ∀ w, Calls Try.prog 6 #[.agg #[.int .i64 P1, .int .i64 P2], .agg #[.int .i64 R1, .int .i64 R2]] w fun e w' => e = .returned (.tuple #[.agg #[.int .i64 c1, .int .i64 c2], .bool C]) ∧ Below w.heap.size w w')
    (k2 : ∀ w, Calls Try.prog 7 #[.agg #[.int .i64 P1, .int .i64 P2], .agg #[.int .i64 R1, .int .i64 R2]] w fun e w' => e = .returned (.tuple #[.agg #[.int .i64 d1, .int .i64 d2], .bool D]) ∧ Below w.heap.size w w')
    (k3 : ∀ w, Calls Try.prog 8 #[.agg #[.int .i64 P1, .int .i64 P2], .agg #[.int .i64 R1, .int .i64 R2]] w fun e w' => e = .returned (.tuple #[.agg #[.int .i64 e1, .int .i64 e2], .bool E]) ∧ Below w.heap.size w w')
    (k4 : ∀ w, Calls Try.prog 9 #[.agg #[.int .i64 P1, .int .i64 P2], .agg #[.int .i64 R1, .int .i64 R2]] w fun e w' => e = .returned (.tuple #[.agg #[.int .i64 f1, .int .i64 f2], .bool F]) ∧ Below w.heap.size w w')
    (s1 : ∀ w, Calls Try.prog 10 #[.int .i64 P1, .int .i64 P2, .int .i64 R1, .int .i64 R2, .bool false] w fun e w' => e = .returned (.tuple #[.int .i64 c1, .int .i64 c2, .bool C]) ∧ Below w.heap.size w w')
    (s2 : ∀ w, Calls Try.prog 10 #[.int .i64 P1, .int .i64 P2, .int .i64 R1, .int .i64 R2, .bool true] w fun e w' => e = .returned (.tuple #[.int .i64 d1, .int .i64 d2, .bool D]) ∧ Below w.heap.size w w')
    (s3 : ∀ w, Calls Try.prog 12 #[.int .i64 P1, .int .i64 P2, .int .i64 R1, .int .i64 R2] w fun e w' => e = .returned (.tuple #[.int .i64 e1, .int .i64 e2, .bool E]) ∧ Below w.heap.size w w')
    (s4 : ∀ w, Calls Try.prog 13 #[.int .i64 P1, .int .i64 P2, .int .i64 R1, .int .i64 R2] w fun e w' => e = .returned (.tuple #[.int .i64 f1, .int .i64 f2, .bool F]) ∧ Below w.heap.size w w')
    (q1 : ∀ w, Calls Try.prog 14 #[.agg #[.int .i64 P1, .int .i64 P2], .agg #[.int .i64 R1, .int .i64 R2]] w fun e w' => e = .returned (.int .i64 z) ∧ Below w.heap.size w w')
    (q2 : ∀ w, Calls Try.prog 15 #[.int .i64 P1, .int .i64 P2, .int .i64 R1, .int .i64 R2] w fun e w' => e = .returned (.int .i64 z) ∧ Below w.heap.size w w') :
    Calls Try.prog 3 #[.int .i64 p, .int .i64 q, .int .i64 r, .int .i64 s] w fun e w' => e = .returned (.bool true) ∧ Below w.heap.size w w' := by
  go_enter Try.func3, Try.ntmps3
  go_wp2_with fail
  refine (shown_any _).mono ?_
  rintro e w1 ⟨rfl, b1⟩
  have HB1 := Lib.hid b1
  clear b1
  go_wp2_with fail
  refine (k0 _).mono ?_
  rintro e w2 ⟨rfl, b2⟩
  have HB2 := Lib.hid ((HB1.out).trans (b2.mono (HB1.out).size))
  clear b2
  go_wp2_with fail
  refine (k1 _).mono ?_
  rintro e w3 ⟨rfl, b3⟩
  have A0 : w3.cell? ⟨w2.heap.size, 0, none⟩ = some (.int .i64 P1) := keepcell b3 (by simp [go_sem]; done)
  have A1 : w3.cell? ⟨w2.heap.size, 1, none⟩ = some (.int .i64 P2) := keepcell b3 (by simp [go_sem]; done)
  have Az : w2.heap.size < w3.heap.size := cell_lt A0
  have B0 : w3.cell? ⟨w2.heap.size + 1, 0, none⟩ = some (.int .i64 R1) := keepcell b3 (by simp [go_sem]; done)
  have B1 : w3.cell? ⟨w2.heap.size + 1, 1, none⟩ = some (.int .i64 R2) := keepcell b3 (by simp [go_sem]; done)
  have Bz : w2.heap.size + 1 < w3.heap.size := cell_lt B0
  have HB3 := Lib.hid (((alw (alw HB2.out _) _)).trans (b3.mono ((alw (alw HB2.out _) _)).size))
  clear b3
  go_wp2_with fail
  refine (k2 _).mono ?_
  rintro e w4 ⟨rfl, b4⟩
  replace A0 : w4.cell? ⟨w2.heap.size, 0, none⟩ = some (.int .i64 P1) := keepcell b4 (keepalloc A0)
  replace A1 : w4.cell? ⟨w2.heap.size, 1, none⟩ = some (.int .i64 P2) := keepcell b4 (keepalloc A1)
  replace Az : w2.heap.size < w4.heap.size := cell_lt A0
  replace B0 : w4.cell? ⟨w2.heap.size + 1, 0, none⟩ = some (.int .i64 R1) := keepcell b4 (keepalloc B0)
  replace B1 : w4.cell? ⟨w2.heap.size + 1, 1, none⟩ = some (.int .i64 R2) := keepcell b4 (keepalloc B1)
  replace Bz : w2.heap.size + 1 < w4.heap.size := cell_lt B0
  have X0 : w4.cell? ⟨w3.heap.size, 0, none⟩ = some (.int .i64 c1) := keepcell b4 (by simp [go_sem]; done)
  have X1 : w4.cell? ⟨w3.heap.size, 1, none⟩ = some (.int .i64 c2) := keepcell b4 (by simp [go_sem]; done)
  have Xz : w3.heap.size < w4.heap.size := cell_lt X0
  have HB4 := Lib.hid (((alw HB3.out _)).trans (b4.mono ((alw HB3.out _)).size))
  clear b4
  go_wp2_with fail
  refine (k3 _).mono ?_
  rintro e w5 ⟨rfl, b5⟩
  replace A0 : w5.cell? ⟨w2.heap.size, 0, none⟩ = some (.int .i64 P1) := keepcell b5 (keepalloc A0)
  replace A1 : w5.cell? ⟨w2.heap.size, 1, none⟩ = some (.int .i64 P2) := keepcell b5 (keepalloc A1)
  replace Az : w2.heap.size < w5.heap.size := cell_lt A0
  replace B0 : w5.cell? ⟨w2.heap.size + 1, 0, none⟩ = some (.int .i64 R1) := keepcell b5 (keepalloc B0)
  replace B1 : w5.cell? ⟨w2.heap.size + 1, 1, none⟩ = some (.int .i64 R2) := keepcell b5 (keepalloc B1)
  replace Bz : w2.heap.size + 1 < w5.heap.size := cell_lt B0
  replace X0 : w5.cell? ⟨w3.heap.size, 0, none⟩ = some (.int .i64 c1) := keepcell b5 (keepalloc X0)
  replace X1 : w5.cell? ⟨w3.heap.size, 1, none⟩ = some (.int .i64 c2) := keepcell b5 (keepalloc X1)
  replace Xz : w3.heap.size < w5.heap.size := cell_lt X0
  have Y0 : w5.cell? ⟨w4.heap.size, 0, none⟩ = some (.int .i64 d1) := keepcell b5 (by simp [go_sem]; done)
  have Y1 : w5.cell? ⟨w4.heap.size, 1, none⟩ = some (.int .i64 d2) := keepcell b5 (by simp [go_sem]; done)
  have Yz : w4.heap.size < w5.heap.size := cell_lt Y0
  have HB5 := Lib.hid (((alw HB4.out _)).trans (b5.mono ((alw HB4.out _)).size))
  clear b5
  go_wp2_with fail
  refine (k4 _).mono ?_
  rintro e w6 ⟨rfl, b6⟩
  replace A0 : w6.cell? ⟨w2.heap.size, 0, none⟩ = some (.int .i64 P1) := keepcell b6 (keepalloc A0)
  replace A1 : w6.cell? ⟨w2.heap.size, 1, none⟩ = some (.int .i64 P2) := keepcell b6 (keepalloc A1)
  replace Az : w2.heap.size < w6.heap.size := cell_lt A0
  replace B0 : w6.cell? ⟨w2.heap.size + 1, 0, none⟩ = some (.int .i64 R1) := keepcell b6 (keepalloc B0)
  replace B1 : w6.cell? ⟨w2.heap.size + 1, 1, none⟩ = some (.int .i64 R2) := keepcell b6 (keepalloc B1)
  replace Bz : w2.heap.size + 1 < w6.heap.size := cell_lt B0
  replace X0 : w6.cell? ⟨w3.heap.size, 0, none⟩ = some (.int .i64 c1) := keepcell b6 (keepalloc X0)
  replace X1 : w6.cell? ⟨w3.heap.size, 1, none⟩ = some (.int .i64 c2) := keepcell b6 (keepalloc X1)
  replace Xz : w3.heap.size < w6.heap.size := cell_lt X0
  replace Y0 : w6.cell? ⟨w4.heap.size, 0, none⟩ = some (.int .i64 d1) := keepcell b6 (keepalloc Y0)
  replace Y1 : w6.cell? ⟨w4.heap.size, 1, none⟩ = some (.int .i64 d2) := keepcell b6 (keepalloc Y1)
  replace Yz : w4.heap.size < w6.heap.size := cell_lt Y0
  have Z0 : w6.cell? ⟨w5.heap.size, 0, none⟩ = some (.int .i64 e1) := keepcell b6 (by simp [go_sem]; done)
  have Z1 : w6.cell? ⟨w5.heap.size, 1, none⟩ = some (.int .i64 e2) := keepcell b6 (by simp [go_sem]; done)
  have Zz : w5.heap.size < w6.heap.size := cell_lt Z0
  have HB6 := Lib.hid (((alw HB5.out _)).trans (b6.mono ((alw HB5.out _)).size))
  clear b6
  go_wp2_with fail
  refine (s1 _).mono ?_
  rintro e w7 ⟨rfl, b7⟩
  replace A0 : w7.cell? ⟨w2.heap.size, 0, none⟩ = some (.int .i64 P1) := keepcell b7 (keepalloc A0)
  replace A1 : w7.cell? ⟨w2.heap.size, 1, none⟩ = some (.int .i64 P2) := keepcell b7 (keepalloc A1)
  replace Az : w2.heap.size < w7.heap.size := cell_lt A0
  replace B0 : w7.cell? ⟨w2.heap.size + 1, 0, none⟩ = some (.int .i64 R1) := keepcell b7 (keepalloc B0)
  replace B1 : w7.cell? ⟨w2.heap.size + 1, 1, none⟩ = some (.int .i64 R2) := keepcell b7 (keepalloc B1)
  replace Bz : w2.heap.size + 1 < w7.heap.size := cell_lt B0
  replace X0 : w7.cell? ⟨w3.heap.size, 0, none⟩ = some (.int .i64 c1) := keepcell b7 (keepalloc X0)
  replace X1 : w7.cell? ⟨w3.heap.size, 1, none⟩ = some (.int .i64 c2) := keepcell b7 (keepalloc X1)
  replace Xz : w3.heap.size < w7.heap.size := cell_lt X0
  replace Y0 : w7.cell? ⟨w4.heap.size, 0, none⟩ = some (.int .i64 d1) := keepcell b7 (keepalloc Y0)
  replace Y1 : w7.cell? ⟨w4.heap.size, 1, none⟩ = some (.int .i64 d2) := keepcell b7 (keepalloc Y1)
  replace Yz : w4.heap.size < w7.heap.size := cell_lt Y0
  replace Z0 : w7.cell? ⟨w5.heap.size, 0, none⟩ = some (.int .i64 e1) := keepcell b7 (keepalloc Z0)
  replace Z1 : w7.cell? ⟨w5.heap.size, 1, none⟩ = some (.int .i64 e2) := keepcell b7 (keepalloc Z1)
  replace Zz : w5.heap.size < w7.heap.size := cell_lt Z0
  have U0 : w7.cell? ⟨w6.heap.size, 0, none⟩ = some (.int .i64 f1) := keepcell b7 (by simp [go_sem]; done)
  have U1 : w7.cell? ⟨w6.heap.size, 1, none⟩ = some (.int .i64 f2) := keepcell b7 (by simp [go_sem]; done)
  have Uz : w6.heap.size < w7.heap.size := cell_lt U0
  have HB7 := Lib.hid (((alw HB6.out _)).trans (b7.mono ((alw HB6.out _)).size))
  clear b7
  go_wp2_with fail
  refine (same_any c1 c2 C _).mono ?_
  rintro e w8 ⟨rfl, b8⟩
  replace A0 : w8.cell? ⟨w2.heap.size, 0, none⟩ = some (.int .i64 P1) := keepcell b8 A0
  replace A1 : w8.cell? ⟨w2.heap.size, 1, none⟩ = some (.int .i64 P2) := keepcell b8 A1
  replace Az : w2.heap.size < w8.heap.size := cell_lt A0
  replace B0 : w8.cell? ⟨w2.heap.size + 1, 0, none⟩ = some (.int .i64 R1) := keepcell b8 B0
  replace B1 : w8.cell? ⟨w2.heap.size + 1, 1, none⟩ = some (.int .i64 R2) := keepcell b8 B1
  replace Bz : w2.heap.size + 1 < w8.heap.size := cell_lt B0
  replace X0 : w8.cell? ⟨w3.heap.size, 0, none⟩ = some (.int .i64 c1) := keepcell b8 X0
  replace X1 : w8.cell? ⟨w3.heap.size, 1, none⟩ = some (.int .i64 c2) := keepcell b8 X1
  replace Xz : w3.heap.size < w8.heap.size := cell_lt X0
  replace Y0 : w8.cell? ⟨w4.heap.size, 0, none⟩ = some (.int .i64 d1) := keepcell b8 Y0
  replace Y1 : w8.cell? ⟨w4.heap.size, 1, none⟩ = some (.int .i64 d2) := keepcell b8 Y1
  replace Yz : w4.heap.size < w8.heap.size := cell_lt Y0
  replace Z0 : w8.cell? ⟨w5.heap.size, 0, none⟩ = some (.int .i64 e1) := keepcell b8 Z0
  replace Z1 : w8.cell? ⟨w5.heap.size, 1, none⟩ = some (.int .i64 e2) := keepcell b8 Z1
  replace Zz : w5.heap.size < w8.heap.size := cell_lt Z0
  replace U0 : w8.cell? ⟨w6.heap.size, 0, none⟩ = some (.int .i64 f1) := keepcell b8 U0
  replace U1 : w8.cell? ⟨w6.heap.size, 1, none⟩ = some (.int .i64 f2) := keepcell b8 U1
  replace Uz : w6.heap.size < w8.heap.size := cell_lt U0
  have HB8 := Lib.hid ((HB7.out).trans (b8.mono (HB7.out).size))
  clear b8
  clear X0 X1 Xz
  go_wp2_with fail
  refine (s2 _).mono ?_
  rintro e w9 ⟨rfl, b9⟩
  replace A0 : w9.cell? ⟨w2.heap.size, 0, none⟩ = some (.int .i64 P1) := keepcell b9 A0
  replace A1 : w9.cell? ⟨w2.heap.size, 1, none⟩ = some (.int .i64 P2) := keepcell b9 A1
  replace Az : w2.heap.size < w9.heap.size := cell_lt A0
  replace B0 : w9.cell? ⟨w2.heap.size + 1, 0, none⟩ = some (.int .i64 R1) := keepcell b9 B0
  replace B1 : w9.cell? ⟨w2.heap.size + 1, 1, none⟩ = some (.int .i64 R2) := keepcell b9 B1
  replace Bz : w2.heap.size + 1 < w9.heap.size := cell_lt B0
  replace Y0 : w9.cell? ⟨w4.heap.size, 0, none⟩ = some (.int .i64 d1) := keepcell b9 Y0
  replace Y1 : w9.cell? ⟨w4.heap.size, 1, none⟩ = some (.int .i64 d2) := keepcell b9 Y1
  replace Yz : w4.heap.size < w9.heap.size := cell_lt Y0
  replace Z0 : w9.cell? ⟨w5.heap.size, 0, none⟩ = some (.int .i64 e1) := keepcell b9 Z0
  replace Z1 : w9.cell? ⟨w5.heap.size, 1, none⟩ = some (.int .i64 e2) := keepcell b9 Z1
  replace Zz : w5.heap.size < w9.heap.size := cell_lt Z0
  replace U0 : w9.cell? ⟨w6.heap.size, 0, none⟩ = some (.int .i64 f1) := keepcell b9 U0
  replace U1 : w9.cell? ⟨w6.heap.size, 1, none⟩ = some (.int .i64 f2) := keepcell b9 U1
  replace Uz : w6.heap.size < w9.heap.size := cell_lt U0
  have HB9 := Lib.hid ((HB8.out).trans (b9.mono (HB8.out).size))
  clear b9
  go_wp2_with fail
  refine (same_any d1 d2 D _).mono ?_
  rintro e w10 ⟨rfl, b10⟩
  replace A0 : w10.cell? ⟨w2.heap.size, 0, none⟩ = some (.int .i64 P1) := keepcell b10 A0
  replace A1 : w10.cell? ⟨w2.heap.size, 1, none⟩ = some (.int .i64 P2) := keepcell b10 A1
  replace Az : w2.heap.size < w10.heap.size := cell_lt A0
  replace B0 : w10.cell? ⟨w2.heap.size + 1, 0, none⟩ = some (.int .i64 R1) := keepcell b10 B0
  replace B1 : w10.cell? ⟨w2.heap.size + 1, 1, none⟩ = some (.int .i64 R2) := keepcell b10 B1
  replace Bz : w2.heap.size + 1 < w10.heap.size := cell_lt B0
  replace Y0 : w10.cell? ⟨w4.heap.size, 0, none⟩ = some (.int .i64 d1) := keepcell b10 Y0
  replace Y1 : w10.cell? ⟨w4.heap.size, 1, none⟩ = some (.int .i64 d2) := keepcell b10 Y1
  replace Yz : w4.heap.size < w10.heap.size := cell_lt Y0
  replace Z0 : w10.cell? ⟨w5.heap.size, 0, none⟩ = some (.int .i64 e1) := keepcell b10 Z0
  replace Z1 : w10.cell? ⟨w5.heap.size, 1, none⟩ = some (.int .i64 e2) := keepcell b10 Z1
  replace Zz : w5.heap.size < w10.heap.size := cell_lt Z0
  replace U0 : w10.cell? ⟨w6.heap.size, 0, none⟩ = some (.int .i64 f1) := keepcell b10 U0
  replace U1 : w10.cell? ⟨w6.heap.size, 1, none⟩ = some (.int .i64 f2) := keepcell b10 U1
  replace Uz : w6.heap.size < w10.heap.size := cell_lt U0
  have HB10 := Lib.hid ((HB9.out).trans (b10.mono (HB9.out).size))
  clear b10
  clear Y0 Y1 Yz
  go_wp2_with fail
  refine (s3 _).mono ?_
  rintro e w11 ⟨rfl, b11⟩
  replace A0 : w11.cell? ⟨w2.heap.size, 0, none⟩ = some (.int .i64 P1) := keepcell b11 A0
  replace A1 : w11.cell? ⟨w2.heap.size, 1, none⟩ = some (.int .i64 P2) := keepcell b11 A1
  replace Az : w2.heap.size < w11.heap.size := cell_lt A0
  replace B0 : w11.cell? ⟨w2.heap.size + 1, 0, none⟩ = some (.int .i64 R1) := keepcell b11 B0
  replace B1 : w11.cell? ⟨w2.heap.size + 1, 1, none⟩ = some (.int .i64 R2) := keepcell b11 B1
  replace Bz : w2.heap.size + 1 < w11.heap.size := cell_lt B0
  replace Z0 : w11.cell? ⟨w5.heap.size, 0, none⟩ = some (.int .i64 e1) := keepcell b11 Z0
  replace Z1 : w11.cell? ⟨w5.heap.size, 1, none⟩ = some (.int .i64 e2) := keepcell b11 Z1
  replace Zz : w5.heap.size < w11.heap.size := cell_lt Z0
  replace U0 : w11.cell? ⟨w6.heap.size, 0, none⟩ = some (.int .i64 f1) := keepcell b11 U0
  replace U1 : w11.cell? ⟨w6.heap.size, 1, none⟩ = some (.int .i64 f2) := keepcell b11 U1
  replace Uz : w6.heap.size < w11.heap.size := cell_lt U0
  have HB11 := Lib.hid ((HB10.out).trans (b11.mono (HB10.out).size))
  clear b11
  go_wp2_with fail
  refine (same_any e1 e2 E _).mono ?_
  rintro e w12 ⟨rfl, b12⟩
  replace A0 : w12.cell? ⟨w2.heap.size, 0, none⟩ = some (.int .i64 P1) := keepcell b12 A0
  replace A1 : w12.cell? ⟨w2.heap.size, 1, none⟩ = some (.int .i64 P2) := keepcell b12 A1
  replace Az : w2.heap.size < w12.heap.size := cell_lt A0
  replace B0 : w12.cell? ⟨w2.heap.size + 1, 0, none⟩ = some (.int .i64 R1) := keepcell b12 B0
  replace B1 : w12.cell? ⟨w2.heap.size + 1, 1, none⟩ = some (.int .i64 R2) := keepcell b12 B1
  replace Bz : w2.heap.size + 1 < w12.heap.size := cell_lt B0
  replace Z0 : w12.cell? ⟨w5.heap.size, 0, none⟩ = some (.int .i64 e1) := keepcell b12 Z0
  replace Z1 : w12.cell? ⟨w5.heap.size, 1, none⟩ = some (.int .i64 e2) := keepcell b12 Z1
  replace Zz : w5.heap.size < w12.heap.size := cell_lt Z0
  replace U0 : w12.cell? ⟨w6.heap.size, 0, none⟩ = some (.int .i64 f1) := keepcell b12 U0
  replace U1 : w12.cell? ⟨w6.heap.size, 1, none⟩ = some (.int .i64 f2) := keepcell b12 U1
  replace Uz : w6.heap.size < w12.heap.size := cell_lt U0
  have HB12 := Lib.hid ((HB11.out).trans (b12.mono (HB11.out).size))
  clear b12
  clear Z0 Z1 Zz
  go_wp2_with fail
  refine (s4 _).mono ?_
  rintro e w13 ⟨rfl, b13⟩
  replace A0 : w13.cell? ⟨w2.heap.size, 0, none⟩ = some (.int .i64 P1) := keepcell b13 A0
  replace A1 : w13.cell? ⟨w2.heap.size, 1, none⟩ = some (.int .i64 P2) := keepcell b13 A1
  replace Az : w2.heap.size < w13.heap.size := cell_lt A0
  replace B0 : w13.cell? ⟨w2.heap.size + 1, 0, none⟩ = some (.int .i64 R1) := keepcell b13 B0
  replace B1 : w13.cell? ⟨w2.heap.size + 1, 1, none⟩ = some (.int .i64 R2) := keepcell b13 B1
  replace Bz : w2.heap.size + 1 < w13.heap.size := cell_lt B0
  replace U0 : w13.cell? ⟨w6.heap.size, 0, none⟩ = some (.int .i64 f1) := keepcell b13 U0
  replace U1 : w13.cell? ⟨w6.heap.size, 1, none⟩ = some (.int .i64 f2) := keepcell b13 U1
  replace Uz : w6.heap.size < w13.heap.size := cell_lt U0
  have HB13 := Lib.hid ((HB12.out).trans (b13.mono (HB12.out).size))
  clear b13
  have S0 := (And.intro A0 (And.intro A1 (And.intro B0 (And.intro B1 (And.intro U0 U1)))))
  go_wp2_with fail
  refine wp_region_held_drew (S := (fun w' => w'.cell? ⟨w2.heap.size, 0, none⟩ = some (.int .i64 P1) ∧ w'.cell? ⟨w2.heap.size, 1, none⟩ = some (.int .i64 P2) ∧ w'.cell? ⟨w2.heap.size + 1, 0, none⟩ = some (.int .i64 R1) ∧ w'.cell? ⟨w2.heap.size + 1, 1, none⟩ = some (.int .i64 R2) ∧ w'.cell? ⟨w6.heap.size, 0, none⟩ = some (.int .i64 f1) ∧ w'.cell? ⟨w6.heap.size, 1, none⟩ = some (.int .i64 f2))) (by kernel_rfl) ?_ (fun hHeld => ?_)
  · first | exact S0 | exact S1 | exact S2 | exact S3
  iterate 2 ((first | refine tk0 ?_ (by decide +kernel) (by rfl) (fun _ _ _ => id) ?_ (by assumption) ?_ | refine tk1 ?_ (by decide +kernel) (by rfl) (fun _ _ _ => id) ?_ (by assumption) ?_); (rotate_left 1); (focus (intro w_ hSw; (try dsimp only at hSw); go_simp; all_goals (with_reducible rfl); done)); focus try simp only [Act.put, List.setIfInBounds_toArray, List.set_cons_zero, List.set_cons_succ])
  (first | (refine tk2 ?_ (by kernel_rfl) (by rfl) (fun _ _ _ => id) ?_ (by assumption) ?_; rotate_left 1; (focus (intro w_ hSw; (try dsimp only at hSw); go_simp; all_goals (with_reducible rfl); done))) | refine un2 (by kernel_rfl) (by rfl) (fun _ _ _ => id) (by assumption) ?_); focus try simp only [Act.put, List.setIfInBounds_toArray, List.set_cons_zero, List.set_cons_succ]
  (first | (refine tk3 ?_ (by kernel_rfl) (by rfl) (fun _ _ _ => id) ?_ (by assumption) ?_; rotate_left 1; (focus (intro w_ hSw; (try dsimp only at hSw); go_simp; all_goals (with_reducible rfl); done))) | refine un3 (by kernel_rfl) (by rfl) (fun _ _ _ => id) (by assumption) ?_); focus try simp only [Act.put, List.setIfInBounds_toArray, List.set_cons_zero, List.set_cons_succ]
  (first | (refine tk4 ?_ (by kernel_rfl) (by rfl) (fun _ _ _ => id) ?_ (by assumption) ?_; rotate_left 1; (focus (intro w_ hSw; (try dsimp only at hSw); go_simp; all_goals (with_reducible rfl); done))) | refine un4 (by kernel_rfl) (by rfl) (fun _ _ _ => id) (by assumption) ?_); focus try simp only [Act.put, List.setIfInBounds_toArray, List.set_cons_zero, List.set_cons_succ]
  (first | (refine tk5 ?_ (by kernel_rfl) (by rfl) (fun _ _ _ => id) ?_ (by assumption) ?_; rotate_left 1; (focus (intro w_ hSw; (try dsimp only at hSw); go_simp; all_goals (with_reducible rfl); done))) | refine un5 (by kernel_rfl) (by rfl) (fun _ _ _ => id) (by assumption) ?_); focus try simp only [Act.put, List.setIfInBounds_toArray, List.set_cons_zero, List.set_cons_succ]
  (first | (refine tk6 ?_ (by kernel_rfl) (by rfl) (fun _ _ _ => id) ?_ (by assumption) ?_; rotate_left 1; (focus (intro w_ hSw; (try dsimp only at hSw); go_simp; all_goals (with_reducible rfl); done))) | refine un6 (by kernel_rfl) (by rfl) (fun _ _ _ => id) (by assumption) ?_); focus try simp only [Act.put, List.setIfInBounds_toArray, List.set_cons_zero, List.set_cons_succ]
  refine wpAnyH_ready (rs := [7]) (by kernel_rfl) (by simp) (ac7 (fun K hK => ?_) (AllReadyH.nil))
  focus go_simp
  focus (refine (same_any f1 f2 F _).mono ?_; rintro e v1 ⟨rfl, b1⟩; have S1 := (And.intro (keepcell b1 hHeld.1) (And.intro (keepcell b1 hHeld.2.1) (And.intro (keepcell b1 hHeld.2.2.1) (And.intro (keepcell b1 hHeld.2.2.2.1) (And.intro (keepcell b1 hHeld.2.2.2.2.1) (keepcell b1 hHeld.2.2.2.2.2)))))); have D1 := Lib.hid (b1); clear b1)
  focus try simp only []
  refine hK.out _ _ ?_ (fun hHeld => ?_)
  · first | exact S0 | exact S1 | exact S2 | exact S3
  focus clear hK K; try simp only [Act.put, List.setIfInBounds_toArray, List.set_cons_zero, List.set_cons_succ]
  iterate 2 ((first | refine tk8 ?_ (by decide +kernel) (by rfl) (fun _ _ _ => id) ?_ (by assumption) ?_ | refine tk9 ?_ (by decide +kernel) (by rfl) (fun _ _ _ => id) ?_ (by assumption) ?_); (rotate_left 1); (focus (intro w_ hSw; (try dsimp only at hSw); go_simp; all_goals (with_reducible rfl); done)); focus try simp only [Act.put, List.setIfInBounds_toArray, List.set_cons_zero, List.set_cons_succ])
  (first | (refine tk10 ?_ (by kernel_rfl) (by rfl) (fun _ _ _ => id) ?_ (by assumption) ?_; rotate_left 1; (focus (intro w_ hSw; (try dsimp only at hSw); go_simp; all_goals (with_reducible rfl); done))) | refine un10 (by kernel_rfl) (by rfl) (fun _ _ _ => id) (by assumption) ?_); focus try simp only [Act.put, List.setIfInBounds_toArray, List.set_cons_zero, List.set_cons_succ]
  (first | (refine tk11 ?_ (by kernel_rfl) (by rfl) (fun _ _ _ => id) ?_ (by assumption) ?_; rotate_left 1; (focus (intro w_ hSw; (try dsimp only at hSw); go_simp; all_goals (with_reducible rfl); done))) | refine un11 (by kernel_rfl) (by rfl) (fun _ _ _ => id) (by assumption) ?_); focus try simp only [Act.put, List.setIfInBounds_toArray, List.set_cons_zero, List.set_cons_succ]
  (first | (refine tk13 ?_ (by kernel_rfl) (by rfl) (fun _ _ _ => id) ?_ (by assumption) ?_; rotate_left 1; (focus (intro w_ hSw; (try dsimp only at hSw); go_simp; all_goals (with_reducible rfl); done))) | refine un13 (by kernel_rfl) (by rfl) (fun _ _ _ => id) (by assumption) ?_); focus try simp only [Act.put, List.setIfInBounds_toArray, List.set_cons_zero, List.set_cons_succ]
  (first | (refine tk14 ?_ (by kernel_rfl) (by rfl) (fun _ _ _ => id) ?_ (by assumption) ?_; rotate_left 1; (focus (intro w_ hSw; (try dsimp only at hSw); go_simp; all_goals (with_reducible rfl); done))) | refine un14 (by kernel_rfl) (by rfl) (fun _ _ _ => id) (by assumption) ?_); focus try simp only [Act.put, List.setIfInBounds_toArray, List.set_cons_zero, List.set_cons_succ]
  (first | (refine tk15 ?_ (by kernel_rfl) (by rfl) (fun _ _ _ => id) ?_ (by assumption) ?_; rotate_left 1; (focus (intro w_ hSw; (try dsimp only at hSw); go_simp; all_goals (with_reducible rfl); done))) | refine un15 (by kernel_rfl) (by rfl) (fun _ _ _ => id) (by assumption) ?_); focus try simp only [Act.put, List.setIfInBounds_toArray, List.set_cons_zero, List.set_cons_succ]
  (first | (refine tk16 ?_ (by kernel_rfl) (by rfl) (fun _ _ _ => id) ?_ (by assumption) ?_; rotate_left 1; (focus (intro w_ hSw; (try dsimp only at hSw); go_simp; all_goals (with_reducible rfl); done))) | refine un16 (by kernel_rfl) (by rfl) (fun _ _ _ => id) (by assumption) ?_); focus try simp only [Act.put, List.setIfInBounds_toArray, List.set_cons_zero, List.set_cons_succ]
  (first | (refine tk17 ?_ (by kernel_rfl) (by rfl) (fun _ _ _ => id) ?_ (by assumption) ?_; rotate_left 1; (focus (intro w_ hSw; (try dsimp only at hSw); go_simp; all_goals (with_reducible rfl); done))) | refine un17 (by kernel_rfl) (by rfl) (fun _ _ _ => id) (by assumption) ?_); focus try simp only [Act.put, List.setIfInBounds_toArray, List.set_cons_zero, List.set_cons_succ]
  (first | (refine tk18 ?_ (by kernel_rfl) (by rfl) (fun _ _ _ => id) ?_ (by assumption) ?_; rotate_left 1; (focus (intro w_ hSw; (try dsimp only at hSw); go_simp; all_goals (with_reducible rfl); done))) | refine un18 (by kernel_rfl) (by rfl) (fun _ _ _ => id) (by assumption) ?_); focus try simp only [Act.put, List.setIfInBounds_toArray, List.set_cons_zero, List.set_cons_succ]
  (first | (refine tk19 ?_ (by kernel_rfl) (by rfl) (fun _ _ _ => id) ?_ (by assumption) ?_; rotate_left 1; (focus (intro w_ hSw; (try dsimp only at hSw); go_simp; all_goals (with_reducible rfl); done))) | refine un19 (by kernel_rfl) (by rfl) (fun _ _ _ => id) (by assumption) ?_); focus try simp only [Act.put, List.setIfInBounds_toArray, List.set_cons_zero, List.set_cons_succ]
  (first | (refine tk20 ?_ (by kernel_rfl) (by rfl) (fun _ _ _ => id) ?_ (by assumption) ?_; rotate_left 1; (focus (intro w_ hSw; (try dsimp only at hSw); go_simp; all_goals (with_reducible rfl); done))) | refine un20 (by kernel_rfl) (by rfl) (fun _ _ _ => id) (by assumption) ?_); focus try simp only [Act.put, List.setIfInBounds_toArray, List.set_cons_zero, List.set_cons_succ]
  refine wpAnyH_ready (rs := [12]) (by kernel_rfl) (by simp) (ac12 (fun K hK => ?_) (AllReadyH.nil))
  focus go_simp
  focus (refine (q1 _).mono ?_; rintro e v2 ⟨rfl, b2⟩; have S2 := (And.intro (keepcell b2 hHeld.1) (And.intro (keepcell b2 hHeld.2.1) (And.intro (keepcell b2 hHeld.2.2.1) (And.intro (keepcell b2 hHeld.2.2.2.1) (And.intro (keepcell b2 hHeld.2.2.2.2.1) (keepcell b2 hHeld.2.2.2.2.2)))))); have D2 := Lib.hid b2; clear b2)
  focus try simp only []
  refine hK.out _ _ ?_ (fun hHeld => ?_)
  · first | exact S0 | exact S1 | exact S2 | exact S3
  focus clear hK K; try simp only [Act.put, List.setIfInBounds_toArray, List.set_cons_zero, List.set_cons_succ]
  refine wpAnyH_ready (rs := [21]) (by kernel_rfl) (by simp) (ac21 (fun K hK => ?_) (AllReadyH.nil))
  focus go_simp
  focus (refine (q2 _).mono ?_; rintro e v3 ⟨rfl, b3⟩; have S3 := (And.intro (keepcell b3 hHeld.1) (And.intro (keepcell b3 hHeld.2.1) (And.intro (keepcell b3 hHeld.2.2.1) (And.intro (keepcell b3 hHeld.2.2.2.1) (And.intro (keepcell b3 hHeld.2.2.2.2.1) (keepcell b3 hHeld.2.2.2.2.2)))))); have D3 := Lib.hid b3; clear b3)
  focus try simp only []
  refine hK.out _ _ ?_ (fun hHeld => ?_)
  · first | exact S0 | exact S1 | exact S2 | exact S3
  focus clear hK K; try simp only [Act.put, List.setIfInBounds_toArray, List.set_cons_zero, List.set_cons_succ]
  (first | (refine tk22 ?_ (by kernel_rfl) (by rfl) (fun _ _ _ => id) ?_ (by assumption) ?_; rotate_left 1; (focus (intro w_ hSw; (try dsimp only at hSw); go_simp; all_goals (with_reducible rfl); done))) | refine un22 (by kernel_rfl) (by rfl) (fun _ _ _ => id) (by assumption) ?_); focus try simp only [Act.put, List.setIfInBounds_toArray, List.set_cons_zero, List.set_cons_succ]
  iterate 2 ((first | refine tk23 ?_ (by decide +kernel) (by rfl) (fun _ _ _ => id) ?_ (by assumption) ?_ | refine tk24 ?_ (by decide +kernel) (by rfl) (fun _ _ _ => id) ?_ (by assumption) ?_); (rotate_left 1); (focus (intro w_ hSw; (try dsimp only at hSw); go_simp; all_goals (with_reducible rfl); done)); focus try simp only [Act.put, List.setIfInBounds_toArray, List.set_cons_zero, List.set_cons_succ])
  refine wpAnyH_done (by kernel_rfl) ?_ _; rotate_left 1
  all_goals
    go_wp2
    go_ret
    exact ⟨rfl, by have a0 := alD HB13.out; have a1 := a0.trans (D1.out.mono a0.size); have a2 := a1.trans (D2.out.mono a1.size); exact a2.trans (D3.out.mono a2.size)⟩
end Go.Proofs.Ytoodfkbciodapaa.Given
