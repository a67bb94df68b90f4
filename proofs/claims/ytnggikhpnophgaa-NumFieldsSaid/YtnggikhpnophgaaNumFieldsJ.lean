/- The walk of NumFields, joined. -/
import Derived.Test.YtnggikhpnophgaaNumFieldsA
import Derived.Test.YtnggikhpnophgaaNumFieldsB
import Derived.Test.YtnggikhpnophgaaNumFieldsC
import Derived.Test.YtnggikhpnophgaaNumFieldsD
import Derived.Test.YtnggikhpnophgaaNumFieldsE
import Derived.Test.YtnggikhpnophgaaNumFieldsF
import Derived.Test.YtnggikhpnophgaaNumOverLaw
namespace Go.Proofs.Ytnggikhpnophgaa.Given
open Go.RowKit Go.Proofs.Ytnggikhpnophgaa.Num
set_option linter.unusedVariables false
set_option linter.unusedSimpArgs false

set_option maxRecDepth 100000 in
set_option maxHeartbeats 16000000 in
theorem fields_no (p q r s t u : Int) {P1 P2 R1 R2 T1 T2 : Int} {A C : Bool} (w : World)
    (k0 : ∀ w, Calls Try.prog 22 #[.int .i64 p, .int .i64 q, .int .i64 r, .int .i64 s] w fun e w' => e = .returned (.tuple #[.agg #[.int .i64 P1, .int .i64 P2], .agg #[.int .i64 R1, .int .i64 R2], .bool A]) ∧ Below w.heap.size w w')
    (k1 : ∀ w, Calls Try.prog 15 #[.int .i64 t, .int .i64 u] w fun e w' => e = .returned (.tuple #[.agg #[.int .i64 T1, .int .i64 T2], .bool C]) ∧ Below w.heap.size w w')
    (h : A = false ∨ (A = true ∧ C = false)) :
    Calls Try.prog 12 #[.int .i64 p, .int .i64 q, .int .i64 r, .int .i64 s, .int .i64 t, .int .i64 u] w fun e w' => e = .returned (.bool true) ∧ Below w.heap.size w w' := by
  go_enter Try.func12, Try.ntmps12
  go_wp2_with fail
  refine (shown_any _).mono ?_
  rintro e w1 ⟨rfl, hb1⟩
  have hbw1 : Below w.heap.size w w1 := by refine Below.trans ?_ (hb1.mono (by first | exact Nat.le_refl _ | (simp; done) | (simp; omega) | omega)); exact (by repeat (first | exact Below.refl _ _ | with_reducible assumption | refine Below.alloc ?_ (by first | exact Nat.le_refl _ | (simp; done) | (simp; omega) | omega) _ | refine Below.setCell ?_ (by first | exact Nat.le_refl _ | (simp; done) | (simp; omega) | omega) _ | refine Below.drew ?_ | refine bdrewN ?_ _))
  have hz1 := hbw1.size
  go_wp2_with fail
  refine (k0 _).mono ?_
  rintro e w2 ⟨rfl, hb2⟩
  have hbw2 : Below w.heap.size w w2 := by refine Below.trans ?_ (hb2.mono (by first | exact Nat.le_refl _ | (simp; done) | (simp; omega) | omega)); exact (by repeat (first | exact Below.refl _ _ | with_reducible assumption | refine Below.alloc ?_ (by first | exact Nat.le_refl _ | (simp; done) | (simp; omega) | omega) _ | refine Below.setCell ?_ (by first | exact Nat.le_refl _ | (simp; done) | (simp; omega) | omega) _ | refine Below.drew ?_ | refine bdrewN ?_ _))
  have hz2 := hbw2.size
  go_wp2_with fail
  refine (k1 _).mono ?_
  rintro e w3 ⟨rfl, hb3⟩
  have hbw3 : Below w.heap.size w w3 := by refine Below.trans ?_ (hb3.mono (by first | exact Nat.le_refl _ | (simp; done) | (simp; omega) | omega)); exact (by repeat (first | exact Below.refl _ _ | with_reducible assumption | refine Below.alloc ?_ (by first | exact Nat.le_refl _ | (simp; done) | (simp; omega) | omega) _ | refine Below.setCell ?_ (by first | exact Nat.le_refl _ | (simp; done) | (simp; omega) | omega) _ | refine Below.drew ?_ | refine bdrewN ?_ _))
  have hz3 := hbw3.size
  have BA0_3 : w3.cell? ⟨w2.heap.size, 0, none⟩ = some (.int .i64 P1) := keepcell hb3 (by simp [go_sem]; done)
  have BA1_3 : w3.cell? ⟨w2.heap.size, 1, none⟩ = some (.int .i64 P2) := keepcell hb3 (by simp [go_sem]; done)
  have BAz_3 : w2.heap.size < w3.heap.size := cell_lt BA0_3
  have BB0_3 : w3.cell? ⟨w2.heap.size + 1, 0, none⟩ = some (.int .i64 R1) := keepcell hb3 (by simp [go_sem]; done)
  have BB1_3 : w3.cell? ⟨w2.heap.size + 1, 1, none⟩ = some (.int .i64 R2) := keepcell hb3 (by simp [go_sem]; done)
  have BBz_3 : w2.heap.size + 1 < w3.heap.size := cell_lt BB0_3
  rcases h with rfl | ⟨rfl, rfl⟩
  all_goals (
    go_wp2
    go_ret
    exact ⟨rfl, (by repeat (first | exact Below.refl _ _ | with_reducible assumption | refine Below.alloc ?_ (by first | exact Nat.le_refl _ | (simp; done) | (simp; omega) | omega) _ | refine Below.setCell ?_ (by first | exact Nat.le_refl _ | (simp; done) | (simp; omega) | omega) _ | refine Below.drew ?_ | refine bdrewN ?_ _))⟩)

theorem makeC {p q x y : Int} {b : Bool} (hp : In64 p) (hq : In64 q) (h : mk p q = (x, y, b)) : ∀ w, Calls Try.prog 15 #[.int .i64 p, .int .i64 q] w fun e w' => e = .returned (.tuple #[.agg #[.int .i64 x, .int .i64 y], .bool b]) ∧ Below w.heap.size w w' :=
  fun w => num_Make.calls p q x y b w (by unfold num_Make.f; rw [if_pos ⟨hp, hq⟩, h])
theorem plusC {p q r s x y : Int} {b : Bool} (hp : In64 p ∧ In64 q) (hr : In64 r ∧ In64 s) (h : sumR p q r s false = (x, y, b)) : ∀ w, Calls Try.prog 23 #[.agg #[.int .i64 p, .int .i64 q], .agg #[.int .i64 r, .int .i64 s]] w fun e w' => e = .returned (.tuple #[.agg #[.int .i64 x, .int .i64 y], .bool b]) ∧ Below w.heap.size w w' :=
  fun w => num_Rat_Plus.calls p q r s x y b w (by unfold num_Rat_Plus.f; rw [if_pos ⟨hp.1, hp.2, hr.1, hr.2⟩, h])
theorem minusC {p q r s x y : Int} {b : Bool} (hp : In64 p ∧ In64 q) (hr : In64 r ∧ In64 s) (h : sumR p q r s true = (x, y, b)) : ∀ w, Calls Try.prog 24 #[.agg #[.int .i64 p, .int .i64 q], .agg #[.int .i64 r, .int .i64 s]] w fun e w' => e = .returned (.tuple #[.agg #[.int .i64 x, .int .i64 y], .bool b]) ∧ Below w.heap.size w w' :=
  fun w => num_Rat_Minus.calls p q r s x y b w (by unfold num_Rat_Minus.f; rw [if_pos ⟨hp.1, hp.2, hr.1, hr.2⟩, h])
theorem timesC {p q r s x y : Int} {b : Bool} (hp : In64 p ∧ In64 q) (hr : In64 r ∧ In64 s) (h : timesR p q r s = (x, y, b)) : ∀ w, Calls Try.prog 35 #[.agg #[.int .i64 p, .int .i64 q], .agg #[.int .i64 r, .int .i64 s]] w fun e w' => e = .returned (.tuple #[.agg #[.int .i64 x, .int .i64 y], .bool b]) ∧ Below w.heap.size w w' :=
  fun w => num_Rat_Times.calls p q r s x y b w (by unfold num_Rat_Times.f; rw [if_pos ⟨hp.1, hp.2, hr.1, hr.2⟩, h])
theorem overC {p q r s x y : Int} {b : Bool} (hp : In64 p ∧ In64 q) (hr : In64 r ∧ In64 s) (h : overR p q r s = (x, y, b)) : ∀ w, Calls Try.prog 36 #[.agg #[.int .i64 p, .int .i64 q], .agg #[.int .i64 r, .int .i64 s]] w fun e w' => e = .returned (.tuple #[.agg #[.int .i64 x, .int .i64 y], .bool b]) ∧ Below w.heap.size w w' :=
  fun w => num_Rat_Over.calls p q r s x y b w (by unfold num_Rat_Over.f; rw [if_pos ⟨hp.1, hp.2, hr.1, hr.2⟩, h])

theorem fields_walk (a0 a1 a2 a3 a4 a5 : Int) (w : World) (A0 : In64 a0) (A1 : In64 a1) (A2 : In64 a2) (A3 : In64 a3) (A4 : In64 a4) (A5 : In64 a5) :
    Calls Try.prog 12 #[.int .i64 a0, .int .i64 a1, .int .i64 a2, .int .i64 a3, .int .i64 a4, .int .i64 a5] w fun e w' => e = .returned (.bool true) ∧ Below w.heap.size w w' := by
  rcases hm0 : mk a0 a1 with ⟨P, Q, m0⟩
  rcases hm1 : mk a2 a3 with ⟨R, S, m1⟩
  rcases hm2 : mk a4 a5 with ⟨T, U, m2⟩
  have k0 := fun w => rats_any a0 a1 a2 a3 w (makeC A0 A1 hm0) (makeC A2 A3 hm1)
  have k1 := makeC A4 A5 hm2
  cases m0
  · exact fields_no a0 a1 a2 a3 a4 a5 w k0 k1 (.inl rfl)
  cases m1
  · exact fields_no a0 a1 a2 a3 a4 a5 w k0 k1 (.inl rfl)
  cases m2
  · exact fields_no a0 a1 a2 a3 a4 a5 w k0 k1 (.inr ⟨rfl, rfl⟩)
  have l1 := (mk_true hm0).1
  have l2 := (mk_true hm1).1
  have l3 := (mk_true hm2).1
  have iP : In64 P ∧ In64 Q := by have h := mk_in a0 a1; rw [hm0] at h; exact h
  have iR : In64 R ∧ In64 S := by have h := mk_in a2 a3; rw [hm1] at h; exact h
  have iT : In64 T ∧ In64 U := by have h := mk_in a4 a5; rw [hm2] at h; exact h
  rcases hx : sumR P Q R S false with ⟨x1, x2, A⟩
  have ix : In64 x1 ∧ In64 x2 := by have h := sumR_in P Q R S false; rw [hx] at h; exact h
  have hx' : sumR R S P Q false = (x1, x2, A) := by rw [← sum_comm l1 l2]; exact hx
  rcases hz : timesR P Q R S with ⟨z1, z2, B⟩
  have iz : In64 z1 ∧ In64 z2 := by have h := timesR_in P Q R S; rw [hz] at h; exact h
  have hz' : timesR R S P Q = (z1, z2, B) := by rw [← times_comm l1 l2]; exact hz
  rcases hy : timesR x1 x2 T U with ⟨y1, y2, E⟩
  rcases hm : timesR P Q T U with ⟨m1, m2, F⟩
  have im : In64 m1 ∧ In64 m2 := by have h := timesR_in P Q T U; rw [hm] at h; exact h
  rcases hn : timesR R S T U with ⟨n1, n2, G⟩
  have hin : In64 n1 ∧ In64 n2 := by have h := timesR_in R S T U; rw [hn] at h; exact h
  rcases ho : sumR m1 m2 n1 n2 false with ⟨o1, o2, H⟩
  have k2 := plusC iP iR hx
  have k3 := plusC iR iP hx'
  have k4 := timesC iP iR hz
  have k5 := timesC iR iP hz'
  have k8 := timesC ix iT hy
  have k9 := timesC iP iT hm
  have k10 := timesC iR iT hn
  have k11 := plusC im hin ho
  cases A
  · cases B
    · exact fields_F a0 a1 a2 a3 a4 a5 w k0 k1 k2 k3 k4 k5 k8 k9 k10 k11
    · by_cases hr : R = 0
      · subst hr
        exact fields_E a0 a1 a2 a3 a4 a5 w k0 k1 k2 k3 k4 k5 k8 k9 k10 k11
      · have k7 := overC iz iR (times_back l1 l2 hr iP.1 iP.2 hz)
        exact fields_D a0 a1 a2 a3 a4 a5 w k0 k1 k2 k3 k4 k5 k7 k8 k9 k10 k11 (by simpa using hr) (by simpa using hr)
  · have k6 := minusC ix iR (sum_back l1 l2 iP.1 iP.2 hx)
    have H2 : E = true → F = true → G = true → H = true ∧ o1 = y1 ∧ o2 = y2 := by
      rintro rfl rfl rfl
      have h := distrib l1 l2 l3 hx hy hm hn
      rw [ho] at h
      simp only [Prod.mk.injEq] at h
      exact ⟨h.2.2, h.1, h.2.1⟩
    cases B
    · exact fields_C a0 a1 a2 a3 a4 a5 w k0 k1 k2 k3 k4 k5 k6 k8 k9 k10 k11 H2
    · by_cases hr : R = 0
      · subst hr
        exact fields_B a0 a1 a2 a3 a4 a5 w k0 k1 k2 k3 k4 k5 k6 k8 k9 k10 k11 H2
      · have k7 := overC iz iR (times_back l1 l2 hr iP.1 iP.2 hz)
        exact fields_A a0 a1 a2 a3 a4 a5 w k0 k1 k2 k3 k4 k5 k6 k7 k8 k9 k10 k11 (by simpa using hr) (by simpa using hr) H2
end Go.Proofs.Ytnggikhpnophgaa.Given
