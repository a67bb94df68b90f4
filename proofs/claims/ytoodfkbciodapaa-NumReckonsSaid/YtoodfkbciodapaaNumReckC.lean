/- The walk of NumReckons, joined. -/
import Derived.Test.YtoodfkbciodapaaNumReck
import Derived.Test.YtoodfkbciodapaaNumOverLaw
import Derived.Test.YtoodfkbciodapaaRefSum
namespace Go.Proofs.Ytoodfkbciodapaa.Given
open Go.RowKit Go.Proofs.Ytoodfkbciodapaa.Num
set_option linter.unusedVariables false
set_option linter.unusedSimpArgs false

set_option maxHeartbeats 4000000 in
theorem reck_no (p q r s : Int) {P1 P2 R1 R2 : Int} (w : World)
    (k0 : ∀ w, Calls Try.prog 5 #[.int .i64 p, .int .i64 q, .int .i64 r, .int .i64 s] w fun e w' => e = .returned (.tuple #[.agg #[.int .i64 P1, .int .i64 P2], .agg #[.int .i64 R1, .int .i64 R2], .bool false]) ∧ Below w.heap.size w w') :
    Calls Try.prog 3 #[.int .i64 p, .int .i64 q, .int .i64 r, .int .i64 s] w fun e w' => e = .returned (.bool true) ∧ Below w.heap.size w w' := by
  go_enter Try.func3, Try.ntmps3
  go_wp2_with fail
  refine (shown_any _).mono ?_
  rintro e w1 ⟨rfl, b1⟩
  have HB1 := Lib.hid b1
  clear b1
  go_wp2_with fail
  refine (k0 _).mono ?_
  rintro e w2 ⟨rfl, b2⟩
  have HB2 := Lib.hid (HB1.out.trans (b2.mono HB1.out.size))
  clear b2
  go_wp2
  go_ret
  exact ⟨rfl, alw (alw HB2.out _) _⟩

theorem makeK {p q x y : Int} {b : Bool} (hp : In64 p) (hq : In64 q) (h : mk p q = (x, y, b)) : ∀ w, Calls Try.prog 16 #[.int .i64 p, .int .i64 q] w fun e w' => e = .returned (.tuple #[.agg #[.int .i64 x, .int .i64 y], .bool b]) ∧ Below w.heap.size w w' :=
  fun w => num_Make.calls p q x y b w (by unfold num_Make.f; rw [if_pos ⟨hp, hq⟩, h])

theorem reck_all (a0 a1 a2 a3 : Int) (w : World) (A0 : In64 a0) (A1 : In64 a1) (A2 : In64 a2) (A3 : In64 a3) :
    Calls Try.prog 3 #[.int .i64 a0, .int .i64 a1, .int .i64 a2, .int .i64 a3] w fun e w' => e = .returned (.bool true) ∧ Below w.heap.size w w' := by
  rcases hm0 : mk a0 a1 with ⟨P, Q, m0⟩
  rcases hm1 : mk a2 a3 with ⟨R, S, m1⟩
  have k0 := fun w => rats_any a0 a1 a2 a3 w (makeK A0 A1 hm0) (makeK A2 A3 hm1)
  cases m0
  · exact reck_no a0 a1 a2 a3 w k0
  cases m1
  · exact reck_no a0 a1 a2 a3 w k0
  have l1 := (mk_true hm0).1
  have l2 := (mk_true hm1).1
  have iP : In64 P ∧ In64 Q := by have h := mk_in a0 a1; rw [hm0] at h; exact h
  have iR : In64 R ∧ In64 S := by have h := mk_in a2 a3; rw [hm1] at h; exact h
  rcases ha : sumR P Q R S false with ⟨c1, c2, C⟩
  rcases hb : sumR P Q R S true with ⟨d1, d2, D⟩
  rcases hc : timesR P Q R S with ⟨e1, e2, E⟩
  rcases hd : overR P Q R S with ⟨f1, f2, F⟩
  have k1 := fun w => num_Rat_Plus.calls P Q R S c1 c2 C w (by unfold num_Rat_Plus.f; rw [if_pos ⟨iP.1, iP.2, iR.1, iR.2⟩, ha])
  have k2 := fun w => num_Rat_Minus.calls P Q R S d1 d2 D w (by unfold num_Rat_Minus.f; rw [if_pos ⟨iP.1, iP.2, iR.1, iR.2⟩, hb])
  have k3 := fun w => num_Rat_Times.calls P Q R S e1 e2 E w (by unfold num_Rat_Times.f; rw [if_pos ⟨iP.1, iP.2, iR.1, iR.2⟩, hc])
  have k4 := fun w => num_Rat_Over.calls P Q R S f1 f2 F w (by unfold num_Rat_Over.f; rw [if_pos ⟨iP.1, iP.2, iR.1, iR.2⟩, hd])
  have q1 := fun w => num_Rat_Cmp.calls P Q R S (cmpI (P * S - R * Q)) w (by unfold num_Rat_Cmp.f; rw [if_pos ⟨iP.1, iP.2, iR.1, iR.2⟩])
  rw [sumR_mk _ l1 l2] at ha hb
  rw [timesR_mk l1 l2] at hc
  rw [overR_mk l1 l2] at hd
  unfold top at ha hb
  rw [if_neg (by decide)] at ha
  rw [if_pos rfl, show P * S - R * Q = P * S + -(R * Q) from rfl] at hb
  exact reck_walk a0 a1 a2 a3 w k0 k1 k2 k3 k4 (fun w => Big.Sum_no w iP.1 iP.2 iR.1 iR.2 ha) (fun w => Big.Sum_yes w iP.1 iP.2 iR.1 iR.2 hb) (fun w => Big.Product_big w iP.1 iP.2 iR.1 iR.2 hc) (fun w => Big.Quotient_big w iP.1 iP.2 iR.1 iR.2 hd) q1 (fun w => Big.Cmp_big w iP.1 iP.2 iR.1 iR.2 rfl)
end Go.Proofs.Ytoodfkbciodapaa.Given
