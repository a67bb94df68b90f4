/- The walk of NumLowest, joined. -/
import Derived.Test.YtnggikhpnophgaaNumLowestA
import Derived.Test.YtnggikhpnophgaaNumLowLaw
namespace Go.Proofs.Ytnggikhpnophgaa.Given
open Go.RowKit Go.Proofs.Ytnggikhpnophgaa.Num
set_option linter.unusedVariables false
set_option linter.unusedSimpArgs false

set_option maxRecDepth 100000 in
set_option maxHeartbeats 16000000 in
theorem lowest_no (p q r s : Int) {P1 P2 R1 R2 : Int} (w : World)
    (k0 : ∀ w, Calls Try.prog 22 #[.int .i64 p, .int .i64 q, .int .i64 r, .int .i64 s] w fun e w' => e = .returned (.tuple #[.agg #[.int .i64 P1, .int .i64 P2], .agg #[.int .i64 R1, .int .i64 R2], .bool false]) ∧ Below w.heap.size w w') :
    Calls Try.prog 13 #[.int .i64 p, .int .i64 q, .int .i64 r, .int .i64 s] w fun e w' => e = .returned (.bool true) ∧ Below w.heap.size w w' := by
  go_enter Try.func13, Try.ntmps13
  go_wp2_with fail
  refine (shown_any _).mono ?_
  rintro e w1 ⟨rfl, hb1⟩
  have hbw1 : Below w.heap.size w w1 := by refine Below.trans ?_ (hb1.mono (by first | exact Nat.le_refl _ | (simp; done) | (simp; omega) | omega)); exact (by repeat (first | exact Below.refl _ _ | with_reducible assumption | refine Below.alloc ?_ (by first | exact Nat.le_refl _ | (simp; done) | (simp; omega) | omega) _ | refine Below.setCell ?_ (by first | exact Nat.le_refl _ | (simp; done) | (simp; omega) | omega) _ | refine Below.drew ?_ | refine bdrewN ?_ _))
  have hz1 := hbw1.size
  go_wp2_with fail
  refine (k0 _).mono ?_
  rintro e w2 ⟨rfl, hb2⟩
  have hbw2 : Below w.heap.size w w2 := by refine Below.trans ?_ (hb2.mono (by first | exact Nat.le_refl _ | (simp; done) | (simp; omega) | omega)); exact (by repeat (first | exact Below.refl _ _ | with_reducible assumption | refine Below.alloc ?_ (by first | exact Nat.le_refl _ | (simp; done) | (simp; omega) | omega) _ | refine Below.setCell ?_ (by first | exact Nat.le_refl _ | (simp; done) | (simp; omega) | omega) _ | refine Below.drew ?_ | refine bdrewN ?_ _))
  have hz2 := hbw2.size
  go_wp2
  go_ret
  exact ⟨rfl, (by repeat (first | exact Below.refl _ _ | with_reducible assumption | refine Below.alloc ?_ (by first | exact Nat.le_refl _ | (simp; done) | (simp; omega) | omega) _ | refine Below.setCell ?_ (by first | exact Nat.le_refl _ | (simp; done) | (simp; omega) | omega) _ | refine Below.drew ?_ | refine bdrewN ?_ _))⟩

theorem makeC {p q x y : Int} {b : Bool} (hp : In64 p) (hq : In64 q) (h : mk p q = (x, y, b)) : ∀ w, Calls Try.prog 15 #[.int .i64 p, .int .i64 q] w fun e w' => e = .returned (.tuple #[.agg #[.int .i64 x, .int .i64 y], .bool b]) ∧ Below w.heap.size w w' :=
  fun w => num_Make.calls p q x y b w (by unfold num_Make.f; rw [if_pos ⟨hp, hq⟩, h])
theorem plusC {p q r s x y : Int} {b : Bool} (hp : In64 p ∧ In64 q) (hr : In64 r ∧ In64 s) (h : sumR p q r s false = (x, y, b)) : ∀ w, Calls Try.prog 23 #[.agg #[.int .i64 p, .int .i64 q], .agg #[.int .i64 r, .int .i64 s]] w fun e w' => e = .returned (.tuple #[.agg #[.int .i64 x, .int .i64 y], .bool b]) ∧ Below w.heap.size w w' :=
  fun w => num_Rat_Plus.calls p q r s x y b w (by unfold num_Rat_Plus.f; rw [if_pos ⟨hp.1, hp.2, hr.1, hr.2⟩, h])
theorem minusC {p q r s x y : Int} {b : Bool} (hp : In64 p ∧ In64 q) (hr : In64 r ∧ In64 s) (h : sumR p q r s true = (x, y, b)) : ∀ w, Calls Try.prog 24 #[.agg #[.int .i64 p, .int .i64 q], .agg #[.int .i64 r, .int .i64 s]] w fun e w' => e = .returned (.tuple #[.agg #[.int .i64 x, .int .i64 y], .bool b]) ∧ Below w.heap.size w w' :=
  fun w => num_Rat_Minus.calls p q r s x y b w (by unfold num_Rat_Minus.f; rw [if_pos ⟨hp.1, hp.2, hr.1, hr.2⟩, h])
theorem timesC {p q r s x y : Int} {b : Bool} (hp : In64 p ∧ In64 q) (hr : In64 r ∧ In64 s) (h : timesR p q r s = (x, y, b)) : ∀ w, Calls Try.prog 35 #[.agg #[.int .i64 p, .int .i64 q], .agg #[.int .i64 r, .int .i64 s]] w fun e w' => e = .returned (.tuple #[.agg #[.int .i64 x, .int .i64 y], .bool b]) ∧ Below w.heap.size w w' :=
  fun w => num_Rat_Times.calls p q r s x y b w (by unfold num_Rat_Times.f; rw [if_pos ⟨hp.1, hp.2, hr.1, hr.2⟩, h])
theorem overC {p q r s x y : Int} {b : Bool} (hp : In64 p ∧ In64 q) (hr : In64 r ∧ In64 s) (h : overR p q r s = (x, y, b)) : ∀ w, Calls Try.prog 36 #[.agg #[.int .i64 p, .int .i64 q], .agg #[.int .i64 r, .int .i64 s]] w fun e w' => e = .returned (.tuple #[.agg #[.int .i64 x, .int .i64 y], .bool b]) ∧ Below w.heap.size w w' :=
  fun w => num_Rat_Over.calls p q r s x y b w (by unfold num_Rat_Over.f; rw [if_pos ⟨hp.1, hp.2, hr.1, hr.2⟩, h])

theorem self_of {a b x y d e : Int} {B J : Bool} (h : mk a b = (x, y, B)) (hd : mk x y = (d, e, J)) : (B = true ∧ J = true ∧ d = x ∧ e = y) ∨ (B = false ∧ x = 0 ∧ y = 0) := by
  rcases mk_self h with ⟨hB, h1⟩ | h1
  · rw [hd] at h1
    simp only [Prod.mk.injEq] at h1
    exact .inl ⟨hB, h1.2.2, h1.1, h1.2.1⟩
  · exact .inr h1

theorem lowest_walk (a0 a1 a2 a3 : Int) (w : World) (A0 : In64 a0) (A1 : In64 a1) (A2 : In64 a2) (A3 : In64 a3) :
    Calls Try.prog 13 #[.int .i64 a0, .int .i64 a1, .int .i64 a2, .int .i64 a3] w fun e w' => e = .returned (.bool true) ∧ Below w.heap.size w w' := by
  rcases hm0 : mk a0 a1 with ⟨P, Q, m0⟩
  rcases hm1 : mk a2 a3 with ⟨R, S, m1⟩
  have k0 := fun w => rats_any a0 a1 a2 a3 w (makeC A0 A1 hm0) (makeC A2 A3 hm1)
  cases m0
  · exact lowest_no a0 a1 a2 a3 w k0
  cases m1
  · exact lowest_no a0 a1 a2 a3 w k0
  have l1 := (mk_true hm0).1
  have l2 := (mk_true hm1).1
  have iP : In64 P ∧ In64 Q := by have h := mk_in a0 a1; rw [hm0] at h; exact h
  have iR : In64 R ∧ In64 S := by have h := mk_in a2 a3; rw [hm1] at h; exact h
  rcases hx0 : sumR P Q R S false with ⟨xa1, xa2, B0⟩
  have i0 : In64 xa1 ∧ In64 xa2 := by have h := sumR_in P Q R S false; rw [hx0] at h; exact h
  rcases hx1 : sumR P Q R S true with ⟨xb1, xb2, B1⟩
  have i1 : In64 xb1 ∧ In64 xb2 := by have h := sumR_in P Q R S true; rw [hx1] at h; exact h
  rcases hx2 : timesR P Q R S with ⟨xc1, xc2, B2⟩
  have i2 : In64 xc1 ∧ In64 xc2 := by have h := timesR_in P Q R S; rw [hx2] at h; exact h
  rcases hx3 : overR P Q R S with ⟨xd1, xd2, B3⟩
  have i3 : In64 xd1 ∧ In64 xd2 := by have h := overR_in P Q R S; rw [hx3] at h; exact h
  rcases hd0 : mk xa1 xa2 with ⟨da1, da2, J0⟩
  rcases hd1 : mk xb1 xb2 with ⟨db1, db2, J1⟩
  rcases hd2 : mk xc1 xc2 with ⟨dc1, dc2, J2⟩
  rcases hd3 : mk xd1 xd2 with ⟨dd1, dd2, J3⟩
  rcases ho : overR P Q P Q with ⟨o1, o2, O⟩
  have hO : (O = true ∧ o1 = 1 ∧ o2 = 1 ∧ (P == 0) = false ∧ (P != 0) = true) ∨ (O = false ∧ P = 0) := by
    by_cases hp : P = 0
    · subst hp
      obtain ⟨a, b, h⟩ := over_nil l1
      rw [ho] at h
      simp only [Prod.mk.injEq] at h
      exact .inr ⟨h.2.2, rfl⟩
    · have h := over_self l1 hp
      rw [ho] at h
      simp only [Prod.mk.injEq] at h
      exact .inl ⟨h.2.2, h.1, h.2.1, by simpa using hp, by simpa using hp⟩
  refine lowest_yes a0 a1 a2 a3 w k0 (plusC iP iR hx0) (makeC i0.1 i0.2 hd0) (self_of (by rw [← sumR_mk false l1 l2]; exact hx0) hd0)
    (minusC iP iR hx1) (makeC i1.1 i1.2 hd1) (self_of (by rw [← sumR_mk true l1 l2]; exact hx1) hd1)
    (timesC iP iR hx2) (makeC i2.1 i2.2 hd2) (self_of (by rw [← timesR_mk l1 l2]; exact hx2) hd2)
    (overC iP iR hx3) (makeC i3.1 i3.2 hd3) (self_of (by rw [← overR_mk l1 l2]; exact hx3) hd3)
    (overC iP iP ho) hO ?_
  by_cases c1 : -9223372036854775808 < a0
  · by_cases c2 : -9223372036854775808 < a1
    · refine .inr (.inr ⟨decide_eq_true c1, decide_eq_true c2, ?_, ?_, ?_⟩)
      · have := A0.1; have := A0.2; unfold wrap64; omega
      · have := A1.1; have := A1.2; unfold wrap64; omega
      · refine makeC ?_ ?_ ?_
        · have := A0.1; have := A0.2; unfold In64; omega
        · have := A1.1; have := A1.2; unfold In64; omega
        · rw [mk_turned (mk_q hm0)]; exact hm0
    · exact .inr (.inl ⟨decide_eq_true c1, decide_eq_false c2⟩)
  · exact .inl (decide_eq_false c1)
end Go.Proofs.Ytnggikhpnophgaa.Given
