/- Functions of the verifier, as the printer writes them: ashlarref03_shape, ashlarref03_letter, ashlarref03_Name, ashlarref03_Var, ashlarref03_sorted, ashlarref03_Sort, ashlarref07_Find. -/
import Derived.Test.YthckboogibhjaaaDoorTrmRf
namespace Go.Proofs.YthckboogibhjaaaDoor.Trm
open Go.RowKit Go.Proofs.YthckboogibhjaaaDoorW.PrintWords Go.Proofs.YthckboogibhjaaaDoorW.PrintLast Go.Proofs.YthckboogibhjaaaDoorW.PrintMore
attribute [local go_sem] max2_int min2_int max_two min_two max_three min_three max_four min_four
set_option linter.unusedVariables false
set_option linter.unusedSimpArgs false

/-! ### ashlarref03_shape: function 47 -/
mutual
def ashlarref03_shape.j0 : Nat → Int → Bool → Option (Int × List Int)
  | 0, _, _ => none
  | k + 1, x4, x5 => if x5 = true then (some (1, ([] : List Int))) else (if x4 = 3 then (some (1, (([2] : List Int)))) else (if x4 = 4 then (ashlarref03_shape.j1 k x4 (x4 == 4)) else (ashlarref03_shape.j1 k x4 (x4 == 5))))
def ashlarref03_shape.j1 : Nat → Int → Bool → Option (Int × List Int)
  | 0, _, _ => none
  | k + 1, x4, x11 => if x11 = true then (some (1, (([1, 1] : List Int)))) else (if x4 = 6 then (some (1, (([1] : List Int)))) else (if x4 = 7 then (ashlarref03_shape.j2 k x4 (x4 == 7)) else (if x4 = 8 then (ashlarref03_shape.j2 k x4 (x4 == 8)) else (ashlarref03_shape.j2 k x4 (x4 == 9)))))
def ashlarref03_shape.j2 : Nat → Int → Bool → Option (Int × List Int)
  | 0, _, _ => none
  | k + 1, x4, x18 => if x18 = true then (some (2, ([] : List Int))) else (if x4 = 10 then (some (2, (([3] : List Int)))) else (if x4 = 11 then (ashlarref03_shape.j3 k x4 (x4 == 11)) else (if x4 = 12 then (ashlarref03_shape.j3 k x4 (x4 == 12)) else (ashlarref03_shape.j3 k x4 (x4 == 13)))))
def ashlarref03_shape.j3 : Nat → Int → Bool → Option (Int × List Int)
  | 0, _, _ => none
  | k + 1, x4, x25 => if x25 = true then (some (2, (([2, 2] : List Int)))) else (if x4 = 14 then (some (3, ([] : List Int))) else (if x4 = 15 then (ashlarref03_shape.j4 k x4 (x4 == 15)) else (if x4 = 16 then (ashlarref03_shape.j4 k x4 (x4 == 16)) else (ashlarref03_shape.j4 k x4 (x4 == 17)))))
def ashlarref03_shape.j4 : Nat → Int → Bool → Option (Int × List Int)
  | 0, _, _ => none
  | k + 1, x4, x32 => if x32 = true then (some (4, ([] : List Int))) else (if x4 = 18 then (some (4, (([4] : List Int)))) else (if x4 = 19 then (ashlarref03_shape.j5 k x4 (x4 == 19)) else (ashlarref03_shape.j5 k x4 (x4 == 20))))
def ashlarref03_shape.j5 : Nat → Int → Bool → Option (Int × List Int)
  | 0, _, _ => none
  | k + 1, x4, x39 => if x39 = true then (some (4, (([(-1)] : List Int)))) else (if x4 = 21 then (some (4, (([4, 4] : List Int)))) else (if x4 = 22 then (ashlarref03_shape.j6 k x4 (x4 == 22)) else (if x4 = 23 then (ashlarref03_shape.j6 k x4 (x4 == 23)) else (ashlarref03_shape.j6 k x4 (x4 == 24)))))
def ashlarref03_shape.j6 : Nat → Int → Bool → Option (Int × List Int)
  | 0, _, _ => none
  | k + 1, x4, x46 => if x46 = true then (some (4, (([1, 1] : List Int)))) else (if x4 = 25 then (some (4, (([3, 2] : List Int)))) else (if x4 = 26 then (ashlarref03_shape.j7 k x4 (x4 == 26)) else (ashlarref03_shape.j7 k x4 (x4 == 27))))
def ashlarref03_shape.j7 : Nat → Int → Bool → Option (Int × List Int)
  | 0, _, _ => none
  | k + 1, x4, x54 => if x54 = true then (some (4, (([2, 2] : List Int)))) else (if x4 = 28 then (some (4, (([3, 3] : List Int)))) else (some (0, ([] : List Int))))
end
def ashlarref03_shape.f (k : Nat) (a0 : Int) : Option (Int × List Int) := if a0 = 1 then (ashlarref03_shape.j0 k a0 (a0 == 1)) else (ashlarref03_shape.j0 k a0 (a0 == 2))
theorem ashlarref03_shape.mono_l : ∀ k, (∀ y0 y1, LeO (ashlarref03_shape.j0 k y0 y1) (ashlarref03_shape.j0 (k + 1) y0 y1)) ∧ (∀ y0 y1, LeO (ashlarref03_shape.j1 k y0 y1) (ashlarref03_shape.j1 (k + 1) y0 y1)) ∧ (∀ y0 y1, LeO (ashlarref03_shape.j2 k y0 y1) (ashlarref03_shape.j2 (k + 1) y0 y1)) ∧ (∀ y0 y1, LeO (ashlarref03_shape.j3 k y0 y1) (ashlarref03_shape.j3 (k + 1) y0 y1)) ∧ (∀ y0 y1, LeO (ashlarref03_shape.j4 k y0 y1) (ashlarref03_shape.j4 (k + 1) y0 y1)) ∧ (∀ y0 y1, LeO (ashlarref03_shape.j5 k y0 y1) (ashlarref03_shape.j5 (k + 1) y0 y1)) ∧ (∀ y0 y1, LeO (ashlarref03_shape.j6 k y0 y1) (ashlarref03_shape.j6 (k + 1) y0 y1)) ∧ (∀ y0 y1, LeO (ashlarref03_shape.j7 k y0 y1) (ashlarref03_shape.j7 (k + 1) y0 y1))
  | 0 => ⟨fun _ _ r h => by simp [ashlarref03_shape.j0] at h, fun _ _ r h => by simp [ashlarref03_shape.j1] at h, fun _ _ r h => by simp [ashlarref03_shape.j2] at h, fun _ _ r h => by simp [ashlarref03_shape.j3] at h, fun _ _ r h => by simp [ashlarref03_shape.j4] at h, fun _ _ r h => by simp [ashlarref03_shape.j5] at h, fun _ _ r h => by simp [ashlarref03_shape.j6] at h, fun _ _ r h => by simp [ashlarref03_shape.j7] at h⟩
  | k + 1 => by
    obtain ⟨ih0, ih1, ih2, ih3, ih4, ih5, ih6, ih7⟩ := ashlarref03_shape.mono_l k
    refine ⟨?_, ?_, ?_, ?_, ?_, ?_, ?_, ?_⟩
    · intro y0 y1
      unfold ashlarref03_shape.j0
      repeat' first
      | (with_reducible exact ih0 _ _)
      | (with_reducible exact ih1 _ _)
      | (with_reducible exact ih2 _ _)
      | (with_reducible exact ih3 _ _)
      | (with_reducible exact ih4 _ _)
      | (with_reducible exact ih5 _ _)
      | (with_reducible exact ih6 _ _)
      | (with_reducible exact ih7 _ _)
      | (with_reducible exact LeO.refl _)
      | (with_reducible exact LeO.none _)
      | (with_reducible refine LeO.ite ?_ ?_)
      | (with_reducible refine LeO.bind ?_ (fun _ => ?_))
      | exact ih0 _ _
      | exact ih1 _ _
      | exact ih2 _ _
      | exact ih3 _ _
      | exact ih4 _ _
      | exact ih5 _ _
      | exact ih6 _ _
      | exact ih7 _ _
      | exact LeO.none _
      | refine LeO.ite ?_ ?_
      | refine LeO.bind ?_ (fun _ => ?_)
    · intro y0 y1
      unfold ashlarref03_shape.j1
      repeat' first
      | (with_reducible exact ih0 _ _)
      | (with_reducible exact ih1 _ _)
      | (with_reducible exact ih2 _ _)
      | (with_reducible exact ih3 _ _)
      | (with_reducible exact ih4 _ _)
      | (with_reducible exact ih5 _ _)
      | (with_reducible exact ih6 _ _)
      | (with_reducible exact ih7 _ _)
      | (with_reducible exact LeO.refl _)
      | (with_reducible exact LeO.none _)
      | (with_reducible refine LeO.ite ?_ ?_)
      | (with_reducible refine LeO.bind ?_ (fun _ => ?_))
      | exact ih0 _ _
      | exact ih1 _ _
      | exact ih2 _ _
      | exact ih3 _ _
      | exact ih4 _ _
      | exact ih5 _ _
      | exact ih6 _ _
      | exact ih7 _ _
      | exact LeO.none _
      | refine LeO.ite ?_ ?_
      | refine LeO.bind ?_ (fun _ => ?_)
    · intro y0 y1
      unfold ashlarref03_shape.j2
      repeat' first
      | (with_reducible exact ih0 _ _)
      | (with_reducible exact ih1 _ _)
      | (with_reducible exact ih2 _ _)
      | (with_reducible exact ih3 _ _)
      | (with_reducible exact ih4 _ _)
      | (with_reducible exact ih5 _ _)
      | (with_reducible exact ih6 _ _)
      | (with_reducible exact ih7 _ _)
      | (with_reducible exact LeO.refl _)
      | (with_reducible exact LeO.none _)
      | (with_reducible refine LeO.ite ?_ ?_)
      | (with_reducible refine LeO.bind ?_ (fun _ => ?_))
      | exact ih0 _ _
      | exact ih1 _ _
      | exact ih2 _ _
      | exact ih3 _ _
      | exact ih4 _ _
      | exact ih5 _ _
      | exact ih6 _ _
      | exact ih7 _ _
      | exact LeO.none _
      | refine LeO.ite ?_ ?_
      | refine LeO.bind ?_ (fun _ => ?_)
    · intro y0 y1
      unfold ashlarref03_shape.j3
      repeat' first
      | (with_reducible exact ih0 _ _)
      | (with_reducible exact ih1 _ _)
      | (with_reducible exact ih2 _ _)
      | (with_reducible exact ih3 _ _)
      | (with_reducible exact ih4 _ _)
      | (with_reducible exact ih5 _ _)
      | (with_reducible exact ih6 _ _)
      | (with_reducible exact ih7 _ _)
      | (with_reducible exact LeO.refl _)
      | (with_reducible exact LeO.none _)
      | (with_reducible refine LeO.ite ?_ ?_)
      | (with_reducible refine LeO.bind ?_ (fun _ => ?_))
      | exact ih0 _ _
      | exact ih1 _ _
      | exact ih2 _ _
      | exact ih3 _ _
      | exact ih4 _ _
      | exact ih5 _ _
      | exact ih6 _ _
      | exact ih7 _ _
      | exact LeO.none _
      | refine LeO.ite ?_ ?_
      | refine LeO.bind ?_ (fun _ => ?_)
    · intro y0 y1
      unfold ashlarref03_shape.j4
      repeat' first
      | (with_reducible exact ih0 _ _)
      | (with_reducible exact ih1 _ _)
      | (with_reducible exact ih2 _ _)
      | (with_reducible exact ih3 _ _)
      | (with_reducible exact ih4 _ _)
      | (with_reducible exact ih5 _ _)
      | (with_reducible exact ih6 _ _)
      | (with_reducible exact ih7 _ _)
      | (with_reducible exact LeO.refl _)
      | (with_reducible exact LeO.none _)
      | (with_reducible refine LeO.ite ?_ ?_)
      | (with_reducible refine LeO.bind ?_ (fun _ => ?_))
      | exact ih0 _ _
      | exact ih1 _ _
      | exact ih2 _ _
      | exact ih3 _ _
      | exact ih4 _ _
      | exact ih5 _ _
      | exact ih6 _ _
      | exact ih7 _ _
      | exact LeO.none _
      | refine LeO.ite ?_ ?_
      | refine LeO.bind ?_ (fun _ => ?_)
    · intro y0 y1
      unfold ashlarref03_shape.j5
      repeat' first
      | (with_reducible exact ih0 _ _)
      | (with_reducible exact ih1 _ _)
      | (with_reducible exact ih2 _ _)
      | (with_reducible exact ih3 _ _)
      | (with_reducible exact ih4 _ _)
      | (with_reducible exact ih5 _ _)
      | (with_reducible exact ih6 _ _)
      | (with_reducible exact ih7 _ _)
      | (with_reducible exact LeO.refl _)
      | (with_reducible exact LeO.none _)
      | (with_reducible refine LeO.ite ?_ ?_)
      | (with_reducible refine LeO.bind ?_ (fun _ => ?_))
      | exact ih0 _ _
      | exact ih1 _ _
      | exact ih2 _ _
      | exact ih3 _ _
      | exact ih4 _ _
      | exact ih5 _ _
      | exact ih6 _ _
      | exact ih7 _ _
      | exact LeO.none _
      | refine LeO.ite ?_ ?_
      | refine LeO.bind ?_ (fun _ => ?_)
    · intro y0 y1
      unfold ashlarref03_shape.j6
      repeat' first
      | (with_reducible exact ih0 _ _)
      | (with_reducible exact ih1 _ _)
      | (with_reducible exact ih2 _ _)
      | (with_reducible exact ih3 _ _)
      | (with_reducible exact ih4 _ _)
      | (with_reducible exact ih5 _ _)
      | (with_reducible exact ih6 _ _)
      | (with_reducible exact ih7 _ _)
      | (with_reducible exact LeO.refl _)
      | (with_reducible exact LeO.none _)
      | (with_reducible refine LeO.ite ?_ ?_)
      | (with_reducible refine LeO.bind ?_ (fun _ => ?_))
      | exact ih0 _ _
      | exact ih1 _ _
      | exact ih2 _ _
      | exact ih3 _ _
      | exact ih4 _ _
      | exact ih5 _ _
      | exact ih6 _ _
      | exact ih7 _ _
      | exact LeO.none _
      | refine LeO.ite ?_ ?_
      | refine LeO.bind ?_ (fun _ => ?_)
    · intro y0 y1
      unfold ashlarref03_shape.j7
      repeat' first
      | (with_reducible exact ih0 _ _)
      | (with_reducible exact ih1 _ _)
      | (with_reducible exact ih2 _ _)
      | (with_reducible exact ih3 _ _)
      | (with_reducible exact ih4 _ _)
      | (with_reducible exact ih5 _ _)
      | (with_reducible exact ih6 _ _)
      | (with_reducible exact ih7 _ _)
      | (with_reducible exact LeO.refl _)
      | (with_reducible exact LeO.none _)
      | (with_reducible refine LeO.ite ?_ ?_)
      | (with_reducible refine LeO.bind ?_ (fun _ => ?_))
      | exact ih0 _ _
      | exact ih1 _ _
      | exact ih2 _ _
      | exact ih3 _ _
      | exact ih4 _ _
      | exact ih5 _ _
      | exact ih6 _ _
      | exact ih7 _ _
      | exact LeO.none _
      | refine LeO.ite ?_ ?_
      | refine LeO.bind ?_ (fun _ => ?_)
theorem ashlarref03_shape.mono : ∀ a0 k, LeO (ashlarref03_shape.f k a0) (ashlarref03_shape.f (k + 1) a0) := by
  intro a0 k
  obtain ⟨ih0, ih1, ih2, ih3, ih4, ih5, ih6, ih7⟩ := ashlarref03_shape.mono_l k
  unfold ashlarref03_shape.f
  repeat' first
      | (with_reducible exact ih0 _ _)
      | (with_reducible exact ih1 _ _)
      | (with_reducible exact ih2 _ _)
      | (with_reducible exact ih3 _ _)
      | (with_reducible exact ih4 _ _)
      | (with_reducible exact ih5 _ _)
      | (with_reducible exact ih6 _ _)
      | (with_reducible exact ih7 _ _)
      | (with_reducible exact LeO.refl _)
      | (with_reducible exact LeO.none _)
      | (with_reducible refine LeO.ite ?_ ?_)
      | (with_reducible refine LeO.bind ?_ (fun _ => ?_))
      | exact ih0 _ _
      | exact ih1 _ _
      | exact ih2 _ _
      | exact ih3 _ _
      | exact ih4 _ _
      | exact ih5 _ _
      | exact ih6 _ _
      | exact ih7 _ _
      | exact LeO.none _
      | refine LeO.ite ?_ ?_
      | refine LeO.bind ?_ (fun _ => ?_)
set_option maxHeartbeats 8000000 in
set_option maxRecDepth 100000 in
theorem ashlarref03_shape.calls (k : Nat) (a0 : Int) (r1 : Int) (r2 : List Int) (w : World) (h : ashlarref03_shape.f k a0 = some (r1, r2)) :
    Calls Tryd.prog 47 #[.int .i64 a0] w fun e w' => ∃ v1_ : Value, e = .returned (.tuple #[.int .i64 r1, v1_]) ∧ Kd.R (Kd.int .i64) 3 w' w.heap.size (fun _ => True) v1_ r2 ∧ Below w.heap.size w w' := by
  have HB := Aside0.mk (Below.refl w.heap.size w)
  have H : (if a0 = 1 then (ashlarref03_shape.j0 k a0 (a0 == 1)) else (ashlarref03_shape.j0 k a0 (a0 == 2))) = some (r1, r2) := h
  clear h
  have HC2 := Aside0.mk H
  clear H
  go_enter Tryd.func47, Tryd.ntmps47
  go_upto_if 5 with (fail)
  go_cut [5] (fun v5 wc => ∃ (kq : Nat) (x5_1 : Bool), v5 = .bool x5_1 ∧ Aside0 (ashlarref03_shape.j0 kq a0 x5_1 = some (r1, r2)) ∧ Aside0 (kq ≤ k) ∧ Aside0 (Below w.heap.size w wc))
  case first =>
    have H := HC2.out
    clear HC2
    by_cases c3 : a0 = 1
    · rw [if_pos c3] at H
      have c3b0 : (a0 == 1) = true := beq_iff_eq.mpr c3
      have c3b1 : (a0 != 1) = false := bne_eq_false_iff_eq.mpr c3
      clear c3
      (first | rw [c3b0] | (simp only [i64_w, i32_w]; rw [c3b0]) | skip)
      have H' := Aside0.mk H
      clear H
      go_wp2
      go_meet
      case rel => exact ⟨_, ((a0 == 1)), (by first | rfl | (simp; done) | (simp [*]; done)), H', ⟨by first | omega | exact Nat.le_refl _⟩, ⟨by repeat (first | (with_reducible first | exact HB.out | apply below_alloc | apply pw_below_drewN | apply below_drew1) | exact HB.out)⟩⟩
    · rw [if_neg c3] at H
      have c3b0 : (a0 == 1) = false := beq_eq_false_iff_ne.mpr c3
      have c3b1 : (a0 != 1) = true := bne_iff_ne.mpr c3
      (first | rw [c3b0] | (simp only [i64_w, i32_w]; rw [c3b0]) | skip)
      have H' := Aside0.mk H
      clear H
      go_wp2
      go_meet
      case rel => exact ⟨_, ((a0 == 2)), (by first | rfl | (simp; done) | (simp [*]; done)), H', ⟨by first | omega | exact Nat.le_refl _⟩, ⟨by repeat (first | (with_reducible first | exact HB.out | apply below_alloc | apply pw_below_drewN | apply below_drew1) | exact HB.out)⟩⟩
  case rest =>
    clear HC2
    try clear p2
    try clear c3
    try clear c3b0
    try clear c3b1
    obtain ⟨kq, x5_1, rfl, HA, HJ1, HB⟩ := hcut
    cases kq with
    | zero => exact absurd HA.out (by simp [ashlarref03_shape.j0])
    | succ kj1 =>
      have H := HA.out
      clear HA
      simp only [ashlarref03_shape.j0] at H
      by_cases c4 : x5_1 = true
      · subst c4
        have H1 : (some (1, ([] : List Int))) = some (r1, r2) := by rw [if_pos rfl] at H; exact H
        clear H
        have H := H1
        clear H1
        simp only [Option.some.injEq, Prod.mk.injEq] at H
        obtain ⟨rfl, rfl⟩ := H
        go_wp2
        go_ret2
        exact ⟨_, by first | rfl | (simp [errW_none, errW_some] <;> rfl) | (simp [*, errW_none, errW_some] <;> rfl), by first | exact Kd.R_nil _ _ _ _ _ | exact Kd.N_nil _ _ _ _ _ | exact Kd.V_nil _ _ _ _ _ | exact Kd.Q_nil _ _ _ _ _ | exact Kd.S_nil _ _ _ _ _, by repeat (first | (with_reducible first | exact HB.out | apply below_alloc | apply pw_below_drewN | apply below_drew1) | exact HB.out)⟩
      · replace c4 := Bool.eq_false_iff.mpr c4
        subst c4
        have H1 : (if a0 = 3 then (some (1, (([2] : List Int)))) else (if a0 = 4 then (ashlarref03_shape.j1 kj1 a0 (a0 == 4)) else (ashlarref03_shape.j1 kj1 a0 (a0 == 5)))) = some (r1, r2) := by rw [if_neg (show ¬ (false = true) by decide)] at H; exact H
        clear H
        have H := H1
        clear H1
        by_cases c5 : a0 = 3
        · rw [if_pos c5] at H
          have c5b0 : (a0 == 3) = true := beq_iff_eq.mpr c5
          have c5b1 : (a0 != 3) = false := bne_eq_false_iff_eq.mpr c5
          clear c5
          obtain ⟨y106, hy106⟩ : ∃ y_ : List Int, y_ = (([2] : List Int)) := ⟨_, rfl⟩
          replace H : (some (1, y106)) = some (r1, r2) := by first | (rw [hy106]; with_reducible exact H) | (have H2_ := (Option.bind_some _ _).symm.trans H; rw [hy106]; with_reducible exact H2_) | (have H2_ := (Option.bind_some _ _).symm.trans H; with_reducible exact H2_) | with_reducible exact H | (rw [hy106]; exact H) | exact H
          have Ny106 := Aside0.mk hy106
          clear hy106
          simp only [Option.some.injEq, Prod.mk.injEq] at H
          obtain ⟨rfl, rfl⟩ := H
          go_wp2_with (first | ((with_reducible refine gate_dst (N := 10) rfl ?_); refine Kd.R_lit (Kd.int .i64) _ 3 ?hg (N := 10) ?hd (xs := ([2] : List Int)) (inner := [.int .i64 2]) (ok := fun _ => True) (okp := fun _ => True) ?hr ?hp (fun _ hk => hk) trivial (Below.refl _ _) (Nat.le_refl _) (by simp) ?_; (case hd => rfl); (case hg => rfl); (case hr => first | (go_simp; done) | (go_simp; rfl)); (case hp => exact (Reps.one (show Kd.M (Kd.int .i64) _ _ _ 2 [.int .i64 2] from rfl) (Reps.none _ _))); intro v107 w6 ho7 hb hg_ hnew_; clear hg_ hnew_; (first | rw [← Ny106.out] at ho7 | (simp only [Int.reduceToNat] at ho7; rw [← Ny106.out] at ho7)); have n0_ := Aside0.mk (Kd.R_lower ho7 (below_size (by repeat (first | (with_reducible first | exact HB.out | apply below_alloc | apply pw_below_drewN | apply below_drew1) | exact HB.out)))); have n1_ := Aside0.mk (below_step (by repeat (first | (with_reducible first | exact HB.out | apply below_alloc | apply pw_below_drewN | apply below_drew1) | exact HB.out)) hb); clear HB; have HO108 := n0_; have HB := n1_; clear n0_ n1_; clear hb ho7))
          go_ret2
          exact ⟨_, by first | rfl | (simp [errW_none, errW_some] <;> rfl) | (simp [*, errW_none, errW_some] <;> rfl), by (with_reducible repeat (first | apply Kd.R_alloc | apply Kd.R_drewN | apply Kd.R_drew)); exact HO108.out, by repeat (first | (with_reducible first | exact HB.out | apply below_alloc | apply pw_below_drewN | apply below_drew1) | exact HB.out)⟩
        · rw [if_neg c5] at H
          have c5b0 : (a0 == 3) = false := beq_eq_false_iff_ne.mpr c5
          have c5b1 : (a0 != 3) = true := bne_iff_ne.mpr c5
          have HC8 := Aside0.mk H
          clear H
          go_upto_if 11 with (fail)
          go_cut [11] (fun v11 wc => ∃ (kq : Nat) (x11_7 : Bool), v11 = .bool x11_7 ∧ Aside0 (ashlarref03_shape.j1 kq a0 x11_7 = some (r1, r2)) ∧ Aside0 (kq ≤ kj1) ∧ Aside0 (Below w.heap.size w wc))
          case first =>
            have H := HC8.out
            clear HC8
            by_cases c9 : a0 = 4
            · rw [if_pos c9] at H
              have c9b0 : (a0 == 4) = true := beq_iff_eq.mpr c9
              have c9b1 : (a0 != 4) = false := bne_eq_false_iff_eq.mpr c9
              clear c9
              (first | rw [c9b0] | (simp only [i64_w, i32_w]; rw [c9b0]) | skip)
              have H' := Aside0.mk H
              clear H
              go_wp2
              go_meet
              case rel => exact ⟨_, ((a0 == 4)), (by first | rfl | (simp; done) | (simp [*]; done)), H', ⟨by have := HJ1.out; first | omega | exact Nat.le_refl _⟩, ⟨by repeat (first | (with_reducible first | exact HB.out | apply below_alloc | apply pw_below_drewN | apply below_drew1) | exact HB.out)⟩⟩
            · rw [if_neg c9] at H
              have c9b0 : (a0 == 4) = false := beq_eq_false_iff_ne.mpr c9
              have c9b1 : (a0 != 4) = true := bne_iff_ne.mpr c9
              (first | rw [c9b0] | (simp only [i64_w, i32_w]; rw [c9b0]) | skip)
              have H' := Aside0.mk H
              clear H
              go_wp2
              go_meet
              case rel => exact ⟨_, ((a0 == 5)), (by first | rfl | (simp; done) | (simp [*]; done)), H', ⟨by have := HJ1.out; first | omega | exact Nat.le_refl _⟩, ⟨by repeat (first | (with_reducible first | exact HB.out | apply below_alloc | apply pw_below_drewN | apply below_drew1) | exact HB.out)⟩⟩
          case rest =>
            clear HC8
            try clear p2
            try clear c3
            try clear c3b0
            try clear c3b1
            try clear c4
            try clear c5
            try clear c5b0
            try clear c5b1
            try clear c9
            try clear c9b0
            try clear c9b1
            try clear p2
            obtain ⟨kq, x11_7, rfl, HA, HJ7, HB⟩ := hcut
            cases kq with
            | zero => exact absurd HA.out (by simp [ashlarref03_shape.j1])
            | succ kj7 =>
              have H := HA.out
              clear HA
              simp only [ashlarref03_shape.j1] at H
              by_cases c10 : x11_7 = true
              · subst c10
                have H1 : (some (1, (([1, 1] : List Int)))) = some (r1, r2) := by rw [if_pos rfl] at H; exact H
                clear H
                have H := H1
                clear H1
                obtain ⟨y109, hy109⟩ : ∃ y_ : List Int, y_ = (([1, 1] : List Int)) := ⟨_, rfl⟩
                replace H : (some (1, y109)) = some (r1, r2) := by first | (rw [hy109]; with_reducible exact H) | (have H2_ := (Option.bind_some _ _).symm.trans H; rw [hy109]; with_reducible exact H2_) | (have H2_ := (Option.bind_some _ _).symm.trans H; with_reducible exact H2_) | with_reducible exact H | (rw [hy109]; exact H) | exact H
                have Ny109 := Aside0.mk hy109
                clear hy109
                simp only [Option.some.injEq, Prod.mk.injEq] at H
                obtain ⟨rfl, rfl⟩ := H
                go_wp2_with (first | ((with_reducible refine gate_dst (N := 14) rfl ?_); refine Kd.R_lit (Kd.int .i64) _ 3 ?hg (N := 14) ?hd (xs := ([1, 1] : List Int)) (inner := [.int .i64 1, .int .i64 1]) (ok := fun _ => True) (okp := fun _ => True) ?hr ?hp (fun _ hk => hk) trivial (Below.refl _ _) (Nat.le_refl _) (by simp) ?_; (case hd => rfl); (case hg => rfl); (case hr => first | (go_simp; done) | (go_simp; rfl)); (case hp => exact (Reps.one (show Kd.M (Kd.int .i64) _ _ _ 1 [.int .i64 1] from rfl) (Reps.one (show Kd.M (Kd.int .i64) _ _ _ 1 [.int .i64 1] from rfl) (Reps.none _ _)))); intro v110 w11 ho12 hb hg_ hnew_; clear hg_ hnew_; (first | rw [← Ny109.out] at ho12 | (simp only [Int.reduceToNat] at ho12; rw [← Ny109.out] at ho12)); have n0_ := Aside0.mk (Kd.R_lower ho12 (below_size (by repeat (first | (with_reducible first | exact HB.out | apply below_alloc | apply pw_below_drewN | apply below_drew1) | exact HB.out)))); have n1_ := Aside0.mk (below_step (by repeat (first | (with_reducible first | exact HB.out | apply below_alloc | apply pw_below_drewN | apply below_drew1) | exact HB.out)) hb); clear HB; have HO111 := n0_; have HB := n1_; clear n0_ n1_; clear hb ho12))
                go_ret2
                exact ⟨_, by first | rfl | (simp [errW_none, errW_some] <;> rfl) | (simp [*, errW_none, errW_some] <;> rfl), by (with_reducible repeat (first | apply Kd.R_alloc | apply Kd.R_drewN | apply Kd.R_drew)); exact HO111.out, by repeat (first | (with_reducible first | exact HB.out | apply below_alloc | apply pw_below_drewN | apply below_drew1) | exact HB.out)⟩
              · replace c10 := Bool.eq_false_iff.mpr c10
                subst c10
                have H1 : (if a0 = 6 then (some (1, (([1] : List Int)))) else (if a0 = 7 then (ashlarref03_shape.j2 kj7 a0 (a0 == 7)) else (if a0 = 8 then (ashlarref03_shape.j2 kj7 a0 (a0 == 8)) else (ashlarref03_shape.j2 kj7 a0 (a0 == 9))))) = some (r1, r2) := by rw [if_neg (show ¬ (false = true) by decide)] at H; exact H
                clear H
                have H := H1
                clear H1
                by_cases c13 : a0 = 6
                · rw [if_pos c13] at H
                  have c13b0 : (a0 == 6) = true := beq_iff_eq.mpr c13
                  have c13b1 : (a0 != 6) = false := bne_eq_false_iff_eq.mpr c13
                  clear c13
                  obtain ⟨y112, hy112⟩ : ∃ y_ : List Int, y_ = (([1] : List Int)) := ⟨_, rfl⟩
                  replace H : (some (1, y112)) = some (r1, r2) := by first | (rw [hy112]; with_reducible exact H) | (have H2_ := (Option.bind_some _ _).symm.trans H; rw [hy112]; with_reducible exact H2_) | (have H2_ := (Option.bind_some _ _).symm.trans H; with_reducible exact H2_) | with_reducible exact H | (rw [hy112]; exact H) | exact H
                  have Ny112 := Aside0.mk hy112
                  clear hy112
                  simp only [Option.some.injEq, Prod.mk.injEq] at H
                  obtain ⟨rfl, rfl⟩ := H
                  go_wp2_with (first | ((with_reducible refine gate_dst (N := 17) rfl ?_); refine Kd.R_lit (Kd.int .i64) _ 3 ?hg (N := 17) ?hd (xs := ([1] : List Int)) (inner := [.int .i64 1]) (ok := fun _ => True) (okp := fun _ => True) ?hr ?hp (fun _ hk => hk) trivial (Below.refl _ _) (Nat.le_refl _) (by simp) ?_; (case hd => rfl); (case hg => rfl); (case hr => first | (go_simp; done) | (go_simp; rfl)); (case hp => exact (Reps.one (show Kd.M (Kd.int .i64) _ _ _ 1 [.int .i64 1] from rfl) (Reps.none _ _))); intro v113 w14 ho15 hb hg_ hnew_; clear hg_ hnew_; (first | rw [← Ny112.out] at ho15 | (simp only [Int.reduceToNat] at ho15; rw [← Ny112.out] at ho15)); have n0_ := Aside0.mk (Kd.R_lower ho15 (below_size (by repeat (first | (with_reducible first | exact HB.out | apply below_alloc | apply pw_below_drewN | apply below_drew1) | exact HB.out)))); have n1_ := Aside0.mk (below_step (by repeat (first | (with_reducible first | exact HB.out | apply below_alloc | apply pw_below_drewN | apply below_drew1) | exact HB.out)) hb); clear HB; have HO114 := n0_; have HB := n1_; clear n0_ n1_; clear hb ho15))
                  go_ret2
                  exact ⟨_, by first | rfl | (simp [errW_none, errW_some] <;> rfl) | (simp [*, errW_none, errW_some] <;> rfl), by (with_reducible repeat (first | apply Kd.R_alloc | apply Kd.R_drewN | apply Kd.R_drew)); exact HO114.out, by repeat (first | (with_reducible first | exact HB.out | apply below_alloc | apply pw_below_drewN | apply below_drew1) | exact HB.out)⟩
                · rw [if_neg c13] at H
                  have c13b0 : (a0 == 6) = false := beq_eq_false_iff_ne.mpr c13
                  have c13b1 : (a0 != 6) = true := bne_iff_ne.mpr c13
                  have HC16 := Aside0.mk H
                  clear H
                  go_upto_if 18 with (fail)
                  go_cut [18] (fun v18 wc => ∃ (kq : Nat) (x18_15 : Bool), v18 = .bool x18_15 ∧ Aside0 (ashlarref03_shape.j2 kq a0 x18_15 = some (r1, r2)) ∧ Aside0 (kq ≤ kj7) ∧ Aside0 (Below w.heap.size w wc))
                  case first =>
                    have H := HC16.out
                    clear HC16
                    by_cases c17 : a0 = 7
                    · rw [if_pos c17] at H
                      have c17b0 : (a0 == 7) = true := beq_iff_eq.mpr c17
                      have c17b1 : (a0 != 7) = false := bne_eq_false_iff_eq.mpr c17
                      clear c17
                      (first | rw [c17b0] | (simp only [i64_w, i32_w]; rw [c17b0]) | skip)
                      have H' := Aside0.mk H
                      clear H
                      go_wp2
                      go_meet
                      case rel => exact ⟨_, ((a0 == 7)), (by first | rfl | (simp; done) | (simp [*]; done)), H', ⟨by have := HJ1.out; have := HJ7.out; first | omega | exact Nat.le_refl _⟩, ⟨by repeat (first | (with_reducible first | exact HB.out | apply below_alloc | apply pw_below_drewN | apply below_drew1) | exact HB.out)⟩⟩
                    · rw [if_neg c17] at H
                      have c17b0 : (a0 == 7) = false := beq_eq_false_iff_ne.mpr c17
                      have c17b1 : (a0 != 7) = true := bne_iff_ne.mpr c17
                      (first | rw [c17b0] | (simp only [i64_w, i32_w]; rw [c17b0]) | skip)
                      by_cases c18 : a0 = 8
                      · rw [if_pos c18] at H
                        have c18b0 : (a0 == 8) = true := beq_iff_eq.mpr c18
                        have c18b1 : (a0 != 8) = false := bne_eq_false_iff_eq.mpr c18
                        clear c18
                        have H' := Aside0.mk H
                        clear H
                        go_wp2
                        go_meet
                        case rel => exact ⟨_, ((a0 == 8)), (by first | rfl | (simp; done) | (simp [*]; done)), H', ⟨by have := HJ1.out; have := HJ7.out; first | omega | exact Nat.le_refl _⟩, ⟨by repeat (first | (with_reducible first | exact HB.out | apply below_alloc | apply pw_below_drewN | apply below_drew1) | exact HB.out)⟩⟩
                      · rw [if_neg c18] at H
                        have c18b0 : (a0 == 8) = false := beq_eq_false_iff_ne.mpr c18
                        have c18b1 : (a0 != 8) = true := bne_iff_ne.mpr c18
                        have H' := Aside0.mk H
                        clear H
                        go_wp2
                        go_meet
                        case rel => exact ⟨_, ((a0 == 9)), (by first | rfl | (simp; done) | (simp [*]; done)), H', ⟨by have := HJ1.out; have := HJ7.out; first | omega | exact Nat.le_refl _⟩, ⟨by repeat (first | (with_reducible first | exact HB.out | apply below_alloc | apply pw_below_drewN | apply below_drew1) | exact HB.out)⟩⟩
                  case rest =>
                    clear HC16
                    try clear c1
                    try clear p2
                    try clear c3
                    try clear c3b0
                    try clear c3b1
                    try clear c4
                    try clear c5
                    try clear c5b0
                    try clear c5b1
                    try clear c9
                    try clear c9b0
                    try clear c9b1
                    try clear c10
                    try clear c13
                    try clear c13b0
                    try clear c13b1
                    try clear c17
                    try clear c17b0
                    try clear c17b1
                    try clear c18
                    try clear c18b0
                    try clear c18b1
                    try clear p2
                    obtain ⟨kq, x18_15, rfl, HA, HJ15, HB⟩ := hcut
                    cases kq with
                    | zero => exact absurd HA.out (by simp [ashlarref03_shape.j2])
                    | succ kj15 =>
                      have H := HA.out
                      clear HA
                      simp only [ashlarref03_shape.j2] at H
                      by_cases c19 : x18_15 = true
                      · subst c19
                        have H1 : (some (2, ([] : List Int))) = some (r1, r2) := by rw [if_pos rfl] at H; exact H
                        clear H
                        have H := H1
                        clear H1
                        simp only [Option.some.injEq, Prod.mk.injEq] at H
                        obtain ⟨rfl, rfl⟩ := H
                        go_wp2
                        go_ret2
                        exact ⟨_, by first | rfl | (simp [errW_none, errW_some] <;> rfl) | (simp [*, errW_none, errW_some] <;> rfl), by first | exact Kd.R_nil _ _ _ _ _ | exact Kd.N_nil _ _ _ _ _ | exact Kd.V_nil _ _ _ _ _ | exact Kd.Q_nil _ _ _ _ _ | exact Kd.S_nil _ _ _ _ _, by repeat (first | (with_reducible first | exact HB.out | apply below_alloc | apply pw_below_drewN | apply below_drew1) | exact HB.out)⟩
                      · replace c19 := Bool.eq_false_iff.mpr c19
                        subst c19
                        have H1 : (if a0 = 10 then (some (2, (([3] : List Int)))) else (if a0 = 11 then (ashlarref03_shape.j3 kj15 a0 (a0 == 11)) else (if a0 = 12 then (ashlarref03_shape.j3 kj15 a0 (a0 == 12)) else (ashlarref03_shape.j3 kj15 a0 (a0 == 13))))) = some (r1, r2) := by rw [if_neg (show ¬ (false = true) by decide)] at H; exact H
                        clear H
                        have H := H1
                        clear H1
                        by_cases c20 : a0 = 10
                        · rw [if_pos c20] at H
                          have c20b0 : (a0 == 10) = true := beq_iff_eq.mpr c20
                          have c20b1 : (a0 != 10) = false := bne_eq_false_iff_eq.mpr c20
                          clear c20
                          obtain ⟨y115, hy115⟩ : ∃ y_ : List Int, y_ = (([3] : List Int)) := ⟨_, rfl⟩
                          replace H : (some (2, y115)) = some (r1, r2) := by first | (rw [hy115]; with_reducible exact H) | (have H2_ := (Option.bind_some _ _).symm.trans H; rw [hy115]; with_reducible exact H2_) | (have H2_ := (Option.bind_some _ _).symm.trans H; with_reducible exact H2_) | with_reducible exact H | (rw [hy115]; exact H) | exact H
                          have Ny115 := Aside0.mk hy115
                          clear hy115
                          simp only [Option.some.injEq, Prod.mk.injEq] at H
                          obtain ⟨rfl, rfl⟩ := H
                          go_wp2_with (first | ((with_reducible refine gate_dst (N := 24) rfl ?_); refine Kd.R_lit (Kd.int .i64) _ 3 ?hg (N := 24) ?hd (xs := ([3] : List Int)) (inner := [.int .i64 3]) (ok := fun _ => True) (okp := fun _ => True) ?hr ?hp (fun _ hk => hk) trivial (Below.refl _ _) (Nat.le_refl _) (by simp) ?_; (case hd => rfl); (case hg => rfl); (case hr => first | (go_simp; done) | (go_simp; rfl)); (case hp => exact (Reps.one (show Kd.M (Kd.int .i64) _ _ _ 3 [.int .i64 3] from rfl) (Reps.none _ _))); intro v116 w21 ho22 hb hg_ hnew_; clear hg_ hnew_; (first | rw [← Ny115.out] at ho22 | (simp only [Int.reduceToNat] at ho22; rw [← Ny115.out] at ho22)); have n0_ := Aside0.mk (Kd.R_lower ho22 (below_size (by repeat (first | (with_reducible first | exact HB.out | apply below_alloc | apply pw_below_drewN | apply below_drew1) | exact HB.out)))); have n1_ := Aside0.mk (below_step (by repeat (first | (with_reducible first | exact HB.out | apply below_alloc | apply pw_below_drewN | apply below_drew1) | exact HB.out)) hb); clear HB; have HO117 := n0_; have HB := n1_; clear n0_ n1_; clear hb ho22))
                          go_ret2
                          exact ⟨_, by first | rfl | (simp [errW_none, errW_some] <;> rfl) | (simp [*, errW_none, errW_some] <;> rfl), by (with_reducible repeat (first | apply Kd.R_alloc | apply Kd.R_drewN | apply Kd.R_drew)); exact HO117.out, by repeat (first | (with_reducible first | exact HB.out | apply below_alloc | apply pw_below_drewN | apply below_drew1) | exact HB.out)⟩
                        · rw [if_neg c20] at H
                          have c20b0 : (a0 == 10) = false := beq_eq_false_iff_ne.mpr c20
                          have c20b1 : (a0 != 10) = true := bne_iff_ne.mpr c20
                          have HC23 := Aside0.mk H
                          clear H
                          go_upto_if 25 with (fail)
                          go_cut [25] (fun v25 wc => ∃ (kq : Nat) (x25_22 : Bool), v25 = .bool x25_22 ∧ Aside0 (ashlarref03_shape.j3 kq a0 x25_22 = some (r1, r2)) ∧ Aside0 (kq ≤ kj15) ∧ Aside0 (Below w.heap.size w wc))
                          case first =>
                            have H := HC23.out
                            clear HC23
                            by_cases c24 : a0 = 11
                            · rw [if_pos c24] at H
                              have c24b0 : (a0 == 11) = true := beq_iff_eq.mpr c24
                              have c24b1 : (a0 != 11) = false := bne_eq_false_iff_eq.mpr c24
                              clear c24
                              (first | rw [c24b0] | (simp only [i64_w, i32_w]; rw [c24b0]) | skip)
                              have H' := Aside0.mk H
                              clear H
                              go_wp2
                              go_meet
                              case rel => exact ⟨_, ((a0 == 11)), (by first | rfl | (simp; done) | (simp [*]; done)), H', ⟨by have := HJ1.out; have := HJ7.out; have := HJ15.out; first | omega | exact Nat.le_refl _⟩, ⟨by repeat (first | (with_reducible first | exact HB.out | apply below_alloc | apply pw_below_drewN | apply below_drew1) | exact HB.out)⟩⟩
                            · rw [if_neg c24] at H
                              have c24b0 : (a0 == 11) = false := beq_eq_false_iff_ne.mpr c24
                              have c24b1 : (a0 != 11) = true := bne_iff_ne.mpr c24
                              (first | rw [c24b0] | (simp only [i64_w, i32_w]; rw [c24b0]) | skip)
                              by_cases c25 : a0 = 12
                              · rw [if_pos c25] at H
                                have c25b0 : (a0 == 12) = true := beq_iff_eq.mpr c25
                                have c25b1 : (a0 != 12) = false := bne_eq_false_iff_eq.mpr c25
                                clear c25
                                have H' := Aside0.mk H
                                clear H
                                go_wp2
                                go_meet
                                case rel => exact ⟨_, ((a0 == 12)), (by first | rfl | (simp; done) | (simp [*]; done)), H', ⟨by have := HJ1.out; have := HJ7.out; have := HJ15.out; first | omega | exact Nat.le_refl _⟩, ⟨by repeat (first | (with_reducible first | exact HB.out | apply below_alloc | apply pw_below_drewN | apply below_drew1) | exact HB.out)⟩⟩
                              · rw [if_neg c25] at H
                                have c25b0 : (a0 == 12) = false := beq_eq_false_iff_ne.mpr c25
                                have c25b1 : (a0 != 12) = true := bne_iff_ne.mpr c25
                                have H' := Aside0.mk H
                                clear H
                                go_wp2
                                go_meet
                                case rel => exact ⟨_, ((a0 == 13)), (by first | rfl | (simp; done) | (simp [*]; done)), H', ⟨by have := HJ1.out; have := HJ7.out; have := HJ15.out; first | omega | exact Nat.le_refl _⟩, ⟨by repeat (first | (with_reducible first | exact HB.out | apply below_alloc | apply pw_below_drewN | apply below_drew1) | exact HB.out)⟩⟩
                          case rest =>
                            clear HC23
                            try clear c1
                            try clear c2
                            try clear p2
                            try clear c3
                            try clear c3b0
                            try clear c3b1
                            try clear c4
                            try clear c5
                            try clear c5b0
                            try clear c5b1
                            try clear c9
                            try clear c9b0
                            try clear c9b1
                            try clear c10
                            try clear c13
                            try clear c13b0
                            try clear c13b1
                            try clear c17
                            try clear c17b0
                            try clear c17b1
                            try clear c18
                            try clear c18b0
                            try clear c18b1
                            try clear c19
                            try clear c20
                            try clear c20b0
                            try clear c20b1
                            try clear c24
                            try clear c24b0
                            try clear c24b1
                            try clear c25
                            try clear c25b0
                            try clear c25b1
                            try clear p2
                            obtain ⟨kq, x25_22, rfl, HA, HJ22, HB⟩ := hcut
                            cases kq with
                            | zero => exact absurd HA.out (by simp [ashlarref03_shape.j3])
                            | succ kj22 =>
                              have H := HA.out
                              clear HA
                              simp only [ashlarref03_shape.j3] at H
                              by_cases c26 : x25_22 = true
                              · subst c26
                                have H1 : (some (2, (([2, 2] : List Int)))) = some (r1, r2) := by rw [if_pos rfl] at H; exact H
                                clear H
                                have H := H1
                                clear H1
                                obtain ⟨y118, hy118⟩ : ∃ y_ : List Int, y_ = (([2, 2] : List Int)) := ⟨_, rfl⟩
                                replace H : (some (2, y118)) = some (r1, r2) := by first | (rw [hy118]; with_reducible exact H) | (have H2_ := (Option.bind_some _ _).symm.trans H; rw [hy118]; with_reducible exact H2_) | (have H2_ := (Option.bind_some _ _).symm.trans H; with_reducible exact H2_) | with_reducible exact H | (rw [hy118]; exact H) | exact H
                                have Ny118 := Aside0.mk hy118
                                clear hy118
                                simp only [Option.some.injEq, Prod.mk.injEq] at H
                                obtain ⟨rfl, rfl⟩ := H
                                go_wp2_with (first | ((with_reducible refine gate_dst (N := 29) rfl ?_); refine Kd.R_lit (Kd.int .i64) _ 3 ?hg (N := 29) ?hd (xs := ([2, 2] : List Int)) (inner := [.int .i64 2, .int .i64 2]) (ok := fun _ => True) (okp := fun _ => True) ?hr ?hp (fun _ hk => hk) trivial (Below.refl _ _) (Nat.le_refl _) (by simp) ?_; (case hd => rfl); (case hg => rfl); (case hr => first | (go_simp; done) | (go_simp; rfl)); (case hp => exact (Reps.one (show Kd.M (Kd.int .i64) _ _ _ 2 [.int .i64 2] from rfl) (Reps.one (show Kd.M (Kd.int .i64) _ _ _ 2 [.int .i64 2] from rfl) (Reps.none _ _)))); intro v119 w27 ho28 hb hg_ hnew_; clear hg_ hnew_; (first | rw [← Ny118.out] at ho28 | (simp only [Int.reduceToNat] at ho28; rw [← Ny118.out] at ho28)); have n0_ := Aside0.mk (Kd.R_lower ho28 (below_size (by repeat (first | (with_reducible first | exact HB.out | apply below_alloc | apply pw_below_drewN | apply below_drew1) | exact HB.out)))); have n1_ := Aside0.mk (below_step (by repeat (first | (with_reducible first | exact HB.out | apply below_alloc | apply pw_below_drewN | apply below_drew1) | exact HB.out)) hb); clear HB; have HO120 := n0_; have HB := n1_; clear n0_ n1_; clear hb ho28))
                                go_ret2
                                exact ⟨_, by first | rfl | (simp [errW_none, errW_some] <;> rfl) | (simp [*, errW_none, errW_some] <;> rfl), by (with_reducible repeat (first | apply Kd.R_alloc | apply Kd.R_drewN | apply Kd.R_drew)); exact HO120.out, by repeat (first | (with_reducible first | exact HB.out | apply below_alloc | apply pw_below_drewN | apply below_drew1) | exact HB.out)⟩
                              · replace c26 := Bool.eq_false_iff.mpr c26
                                subst c26
                                have H1 : (if a0 = 14 then (some (3, ([] : List Int))) else (if a0 = 15 then (ashlarref03_shape.j4 kj22 a0 (a0 == 15)) else (if a0 = 16 then (ashlarref03_shape.j4 kj22 a0 (a0 == 16)) else (ashlarref03_shape.j4 kj22 a0 (a0 == 17))))) = some (r1, r2) := by rw [if_neg (show ¬ (false = true) by decide)] at H; exact H
                                clear H
                                have H := H1
                                clear H1
                                by_cases c29 : a0 = 14
                                · rw [if_pos c29] at H
                                  have c29b0 : (a0 == 14) = true := beq_iff_eq.mpr c29
                                  have c29b1 : (a0 != 14) = false := bne_eq_false_iff_eq.mpr c29
                                  clear c29
                                  simp only [Option.some.injEq, Prod.mk.injEq] at H
                                  obtain ⟨rfl, rfl⟩ := H
                                  go_wp2
                                  go_ret2
                                  exact ⟨_, by first | rfl | (simp [errW_none, errW_some] <;> rfl) | (simp [*, errW_none, errW_some] <;> rfl), by first | exact Kd.R_nil _ _ _ _ _ | exact Kd.N_nil _ _ _ _ _ | exact Kd.V_nil _ _ _ _ _ | exact Kd.Q_nil _ _ _ _ _ | exact Kd.S_nil _ _ _ _ _, by repeat (first | (with_reducible first | exact HB.out | apply below_alloc | apply pw_below_drewN | apply below_drew1) | exact HB.out)⟩
                                · rw [if_neg c29] at H
                                  have c29b0 : (a0 == 14) = false := beq_eq_false_iff_ne.mpr c29
                                  have c29b1 : (a0 != 14) = true := bne_iff_ne.mpr c29
                                  have HC30 := Aside0.mk H
                                  clear H
                                  go_upto_if 32 with (fail)
                                  go_cut [32] (fun v32 wc => ∃ (kq : Nat) (x32_29 : Bool), v32 = .bool x32_29 ∧ Aside0 (ashlarref03_shape.j4 kq a0 x32_29 = some (r1, r2)) ∧ Aside0 (kq ≤ kj22) ∧ Aside0 (Below w.heap.size w wc))
                                  case first =>
                                    have H := HC30.out
                                    clear HC30
                                    by_cases c31 : a0 = 15
                                    · rw [if_pos c31] at H
                                      have c31b0 : (a0 == 15) = true := beq_iff_eq.mpr c31
                                      have c31b1 : (a0 != 15) = false := bne_eq_false_iff_eq.mpr c31
                                      clear c31
                                      (first | rw [c31b0] | (simp only [i64_w, i32_w]; rw [c31b0]) | skip)
                                      have H' := Aside0.mk H
                                      clear H
                                      go_wp2
                                      go_meet
                                      case rel => exact ⟨_, ((a0 == 15)), (by first | rfl | (simp; done) | (simp [*]; done)), H', ⟨by have := HJ1.out; have := HJ7.out; have := HJ15.out; have := HJ22.out; first | omega | exact Nat.le_refl _⟩, ⟨by repeat (first | (with_reducible first | exact HB.out | apply below_alloc | apply pw_below_drewN | apply below_drew1) | exact HB.out)⟩⟩
                                    · rw [if_neg c31] at H
                                      have c31b0 : (a0 == 15) = false := beq_eq_false_iff_ne.mpr c31
                                      have c31b1 : (a0 != 15) = true := bne_iff_ne.mpr c31
                                      (first | rw [c31b0] | (simp only [i64_w, i32_w]; rw [c31b0]) | skip)
                                      by_cases c32 : a0 = 16
                                      · rw [if_pos c32] at H
                                        have c32b0 : (a0 == 16) = true := beq_iff_eq.mpr c32
                                        have c32b1 : (a0 != 16) = false := bne_eq_false_iff_eq.mpr c32
                                        clear c32
                                        have H' := Aside0.mk H
                                        clear H
                                        go_wp2
                                        go_meet
                                        case rel => exact ⟨_, ((a0 == 16)), (by first | rfl | (simp; done) | (simp [*]; done)), H', ⟨by have := HJ1.out; have := HJ7.out; have := HJ15.out; have := HJ22.out; first | omega | exact Nat.le_refl _⟩, ⟨by repeat (first | (with_reducible first | exact HB.out | apply below_alloc | apply pw_below_drewN | apply below_drew1) | exact HB.out)⟩⟩
                                      · rw [if_neg c32] at H
                                        have c32b0 : (a0 == 16) = false := beq_eq_false_iff_ne.mpr c32
                                        have c32b1 : (a0 != 16) = true := bne_iff_ne.mpr c32
                                        have H' := Aside0.mk H
                                        clear H
                                        go_wp2
                                        go_meet
                                        case rel => exact ⟨_, ((a0 == 17)), (by first | rfl | (simp; done) | (simp [*]; done)), H', ⟨by have := HJ1.out; have := HJ7.out; have := HJ15.out; have := HJ22.out; first | omega | exact Nat.le_refl _⟩, ⟨by repeat (first | (with_reducible first | exact HB.out | apply below_alloc | apply pw_below_drewN | apply below_drew1) | exact HB.out)⟩⟩
                                  case rest =>
                                    clear HC30
                                    try clear c1
                                    try clear c2
                                    try clear p2
                                    try clear c3
                                    try clear c3b0
                                    try clear c3b1
                                    try clear c4
                                    try clear c5
                                    try clear c5b0
                                    try clear c5b1
                                    try clear c9
                                    try clear c9b0
                                    try clear c9b1
                                    try clear c10
                                    try clear c13
                                    try clear c13b0
                                    try clear c13b1
                                    try clear c17
                                    try clear c17b0
                                    try clear c17b1
                                    try clear c18
                                    try clear c18b0
                                    try clear c18b1
                                    try clear c19
                                    try clear c20
                                    try clear c20b0
                                    try clear c20b1
                                    try clear c24
                                    try clear c24b0
                                    try clear c24b1
                                    try clear c25
                                    try clear c25b0
                                    try clear c25b1
                                    try clear c26
                                    try clear c29
                                    try clear c29b0
                                    try clear c29b1
                                    try clear c31
                                    try clear c31b0
                                    try clear c31b1
                                    try clear c32
                                    try clear c32b0
                                    try clear c32b1
                                    try clear p2
                                    obtain ⟨kq, x32_29, rfl, HA, HJ29, HB⟩ := hcut
                                    cases kq with
                                    | zero => exact absurd HA.out (by simp [ashlarref03_shape.j4])
                                    | succ kj29 =>
                                      have H := HA.out
                                      clear HA
                                      simp only [ashlarref03_shape.j4] at H
                                      by_cases c33 : x32_29 = true
                                      · subst c33
                                        have H1 : (some (4, ([] : List Int))) = some (r1, r2) := by rw [if_pos rfl] at H; exact H
                                        clear H
                                        have H := H1
                                        clear H1
                                        simp only [Option.some.injEq, Prod.mk.injEq] at H
                                        obtain ⟨rfl, rfl⟩ := H
                                        go_wp2
                                        go_ret2
                                        exact ⟨_, by first | rfl | (simp [errW_none, errW_some] <;> rfl) | (simp [*, errW_none, errW_some] <;> rfl), by first | exact Kd.R_nil _ _ _ _ _ | exact Kd.N_nil _ _ _ _ _ | exact Kd.V_nil _ _ _ _ _ | exact Kd.Q_nil _ _ _ _ _ | exact Kd.S_nil _ _ _ _ _, by repeat (first | (with_reducible first | exact HB.out | apply below_alloc | apply pw_below_drewN | apply below_drew1) | exact HB.out)⟩
                                      · replace c33 := Bool.eq_false_iff.mpr c33
                                        subst c33
                                        have H1 : (if a0 = 18 then (some (4, (([4] : List Int)))) else (if a0 = 19 then (ashlarref03_shape.j5 kj29 a0 (a0 == 19)) else (ashlarref03_shape.j5 kj29 a0 (a0 == 20)))) = some (r1, r2) := by rw [if_neg (show ¬ (false = true) by decide)] at H; exact H
                                        clear H
                                        have H := H1
                                        clear H1
                                        by_cases c34 : a0 = 18
                                        · rw [if_pos c34] at H
                                          have c34b0 : (a0 == 18) = true := beq_iff_eq.mpr c34
                                          have c34b1 : (a0 != 18) = false := bne_eq_false_iff_eq.mpr c34
                                          clear c34
                                          obtain ⟨y121, hy121⟩ : ∃ y_ : List Int, y_ = (([4] : List Int)) := ⟨_, rfl⟩
                                          replace H : (some (4, y121)) = some (r1, r2) := by first | (rw [hy121]; with_reducible exact H) | (have H2_ := (Option.bind_some _ _).symm.trans H; rw [hy121]; with_reducible exact H2_) | (have H2_ := (Option.bind_some _ _).symm.trans H; with_reducible exact H2_) | with_reducible exact H | (rw [hy121]; exact H) | exact H
                                          have Ny121 := Aside0.mk hy121
                                          clear hy121
                                          simp only [Option.some.injEq, Prod.mk.injEq] at H
                                          obtain ⟨rfl, rfl⟩ := H
                                          go_wp2_with (first | ((with_reducible refine gate_dst (N := 38) rfl ?_); refine Kd.R_lit (Kd.int .i64) _ 3 ?hg (N := 38) ?hd (xs := ([4] : List Int)) (inner := [.int .i64 4]) (ok := fun _ => True) (okp := fun _ => True) ?hr ?hp (fun _ hk => hk) trivial (Below.refl _ _) (Nat.le_refl _) (by simp) ?_; (case hd => rfl); (case hg => rfl); (case hr => first | (go_simp; done) | (go_simp; rfl)); (case hp => exact (Reps.one (show Kd.M (Kd.int .i64) _ _ _ 4 [.int .i64 4] from rfl) (Reps.none _ _))); intro v122 w35 ho36 hb hg_ hnew_; clear hg_ hnew_; (first | rw [← Ny121.out] at ho36 | (simp only [Int.reduceToNat] at ho36; rw [← Ny121.out] at ho36)); have n0_ := Aside0.mk (Kd.R_lower ho36 (below_size (by repeat (first | (with_reducible first | exact HB.out | apply below_alloc | apply pw_below_drewN | apply below_drew1) | exact HB.out)))); have n1_ := Aside0.mk (below_step (by repeat (first | (with_reducible first | exact HB.out | apply below_alloc | apply pw_below_drewN | apply below_drew1) | exact HB.out)) hb); clear HB; have HO123 := n0_; have HB := n1_; clear n0_ n1_; clear hb ho36))
                                          go_ret2
                                          exact ⟨_, by first | rfl | (simp [errW_none, errW_some] <;> rfl) | (simp [*, errW_none, errW_some] <;> rfl), by (with_reducible repeat (first | apply Kd.R_alloc | apply Kd.R_drewN | apply Kd.R_drew)); exact HO123.out, by repeat (first | (with_reducible first | exact HB.out | apply below_alloc | apply pw_below_drewN | apply below_drew1) | exact HB.out)⟩
                                        · rw [if_neg c34] at H
                                          have c34b0 : (a0 == 18) = false := beq_eq_false_iff_ne.mpr c34
                                          have c34b1 : (a0 != 18) = true := bne_iff_ne.mpr c34
                                          have HC37 := Aside0.mk H
                                          clear H
                                          go_upto_if 39 with (fail)
                                          go_cut [39] (fun v39 wc => ∃ (kq : Nat) (x39_36 : Bool), v39 = .bool x39_36 ∧ Aside0 (ashlarref03_shape.j5 kq a0 x39_36 = some (r1, r2)) ∧ Aside0 (kq ≤ kj29) ∧ Aside0 (Below w.heap.size w wc))
                                          case first =>
                                            have H := HC37.out
                                            clear HC37
                                            by_cases c38 : a0 = 19
                                            · rw [if_pos c38] at H
                                              have c38b0 : (a0 == 19) = true := beq_iff_eq.mpr c38
                                              have c38b1 : (a0 != 19) = false := bne_eq_false_iff_eq.mpr c38
                                              clear c38
                                              (first | rw [c38b0] | (simp only [i64_w, i32_w]; rw [c38b0]) | skip)
                                              have H' := Aside0.mk H
                                              clear H
                                              go_wp2
                                              go_meet
                                              case rel => exact ⟨_, ((a0 == 19)), (by first | rfl | (simp; done) | (simp [*]; done)), H', ⟨by have := HJ1.out; have := HJ7.out; have := HJ15.out; have := HJ22.out; have := HJ29.out; first | omega | exact Nat.le_refl _⟩, ⟨by repeat (first | (with_reducible first | exact HB.out | apply below_alloc | apply pw_below_drewN | apply below_drew1) | exact HB.out)⟩⟩
                                            · rw [if_neg c38] at H
                                              have c38b0 : (a0 == 19) = false := beq_eq_false_iff_ne.mpr c38
                                              have c38b1 : (a0 != 19) = true := bne_iff_ne.mpr c38
                                              (first | rw [c38b0] | (simp only [i64_w, i32_w]; rw [c38b0]) | skip)
                                              have H' := Aside0.mk H
                                              clear H
                                              go_wp2
                                              go_meet
                                              case rel => exact ⟨_, ((a0 == 20)), (by first | rfl | (simp; done) | (simp [*]; done)), H', ⟨by have := HJ1.out; have := HJ7.out; have := HJ15.out; have := HJ22.out; have := HJ29.out; first | omega | exact Nat.le_refl _⟩, ⟨by repeat (first | (with_reducible first | exact HB.out | apply below_alloc | apply pw_below_drewN | apply below_drew1) | exact HB.out)⟩⟩
                                          case rest =>
                                            clear HC37
                                            try clear c1
                                            try clear c2
                                            try clear p2
                                            try clear c3
                                            try clear c3b0
                                            try clear c3b1
                                            try clear c4
                                            try clear c5
                                            try clear c5b0
                                            try clear c5b1
                                            try clear c9
                                            try clear c9b0
                                            try clear c9b1
                                            try clear c10
                                            try clear c13
                                            try clear c13b0
                                            try clear c13b1
                                            try clear c17
                                            try clear c17b0
                                            try clear c17b1
                                            try clear c18
                                            try clear c18b0
                                            try clear c18b1
                                            try clear c19
                                            try clear c20
                                            try clear c20b0
                                            try clear c20b1
                                            try clear c24
                                            try clear c24b0
                                            try clear c24b1
                                            try clear c25
                                            try clear c25b0
                                            try clear c25b1
                                            try clear c26
                                            try clear c29
                                            try clear c29b0
                                            try clear c29b1
                                            try clear c31
                                            try clear c31b0
                                            try clear c31b1
                                            try clear c32
                                            try clear c32b0
                                            try clear c32b1
                                            try clear c33
                                            try clear c34
                                            try clear c34b0
                                            try clear c34b1
                                            try clear c38
                                            try clear c38b0
                                            try clear c38b1
                                            try clear p2
                                            obtain ⟨kq, x39_36, rfl, HA, HJ36, HB⟩ := hcut
                                            cases kq with
                                            | zero => exact absurd HA.out (by simp [ashlarref03_shape.j5])
                                            | succ kj36 =>
                                              have H := HA.out
                                              clear HA
                                              simp only [ashlarref03_shape.j5] at H
                                              by_cases c39 : x39_36 = true
                                              · subst c39
                                                have H1 : (some (4, (([(-1)] : List Int)))) = some (r1, r2) := by rw [if_pos rfl] at H; exact H
                                                clear H
                                                have H := H1
                                                clear H1
                                                obtain ⟨y124, hy124⟩ : ∃ y_ : List Int, y_ = (([(-1)] : List Int)) := ⟨_, rfl⟩
                                                replace H : (some (4, y124)) = some (r1, r2) := by first | (rw [hy124]; with_reducible exact H) | (have H2_ := (Option.bind_some _ _).symm.trans H; rw [hy124]; with_reducible exact H2_) | (have H2_ := (Option.bind_some _ _).symm.trans H; with_reducible exact H2_) | with_reducible exact H | (rw [hy124]; exact H) | exact H
                                                have Ny124 := Aside0.mk hy124
                                                clear hy124
                                                simp only [Option.some.injEq, Prod.mk.injEq] at H
                                                obtain ⟨rfl, rfl⟩ := H
                                                go_wp2_with (first | ((with_reducible refine gate_dst (N := 42) rfl ?_); refine Kd.R_lit (Kd.int .i64) _ 3 ?hg (N := 42) ?hd (xs := ([(-1)] : List Int)) (inner := [.int .i64 (-1)]) (ok := fun _ => True) (okp := fun _ => True) ?hr ?hp (fun _ hk => hk) trivial (Below.refl _ _) (Nat.le_refl _) (by simp) ?_; (case hd => rfl); (case hg => rfl); (case hr => first | (go_simp; done) | (go_simp; rfl)); (case hp => exact (Reps.one (show Kd.M (Kd.int .i64) _ _ _ (-1) [.int .i64 (-1)] from rfl) (Reps.none _ _))); intro v125 w40 ho41 hb hg_ hnew_; clear hg_ hnew_; (first | rw [← Ny124.out] at ho41 | (simp only [Int.reduceToNat] at ho41; rw [← Ny124.out] at ho41)); have n0_ := Aside0.mk (Kd.R_lower ho41 (below_size (by repeat (first | (with_reducible first | exact HB.out | apply below_alloc | apply pw_below_drewN | apply below_drew1) | exact HB.out)))); have n1_ := Aside0.mk (below_step (by repeat (first | (with_reducible first | exact HB.out | apply below_alloc | apply pw_below_drewN | apply below_drew1) | exact HB.out)) hb); clear HB; have HO126 := n0_; have HB := n1_; clear n0_ n1_; clear hb ho41))
                                                go_ret2
                                                exact ⟨_, by first | rfl | (simp [errW_none, errW_some] <;> rfl) | (simp [*, errW_none, errW_some] <;> rfl), by (with_reducible repeat (first | apply Kd.R_alloc | apply Kd.R_drewN | apply Kd.R_drew)); exact HO126.out, by repeat (first | (with_reducible first | exact HB.out | apply below_alloc | apply pw_below_drewN | apply below_drew1) | exact HB.out)⟩
                                              · replace c39 := Bool.eq_false_iff.mpr c39
                                                subst c39
                                                have H1 : (if a0 = 21 then (some (4, (([4, 4] : List Int)))) else (if a0 = 22 then (ashlarref03_shape.j6 kj36 a0 (a0 == 22)) else (if a0 = 23 then (ashlarref03_shape.j6 kj36 a0 (a0 == 23)) else (ashlarref03_shape.j6 kj36 a0 (a0 == 24))))) = some (r1, r2) := by rw [if_neg (show ¬ (false = true) by decide)] at H; exact H
                                                clear H
                                                have H := H1
                                                clear H1
                                                by_cases c42 : a0 = 21
                                                · rw [if_pos c42] at H
                                                  have c42b0 : (a0 == 21) = true := beq_iff_eq.mpr c42
                                                  have c42b1 : (a0 != 21) = false := bne_eq_false_iff_eq.mpr c42
                                                  clear c42
                                                  obtain ⟨y127, hy127⟩ : ∃ y_ : List Int, y_ = (([4, 4] : List Int)) := ⟨_, rfl⟩
                                                  replace H : (some (4, y127)) = some (r1, r2) := by first | (rw [hy127]; with_reducible exact H) | (have H2_ := (Option.bind_some _ _).symm.trans H; rw [hy127]; with_reducible exact H2_) | (have H2_ := (Option.bind_some _ _).symm.trans H; with_reducible exact H2_) | with_reducible exact H | (rw [hy127]; exact H) | exact H
                                                  have Ny127 := Aside0.mk hy127
                                                  clear hy127
                                                  simp only [Option.some.injEq, Prod.mk.injEq] at H
                                                  obtain ⟨rfl, rfl⟩ := H
                                                  go_wp2_with (first | ((with_reducible refine gate_dst (N := 45) rfl ?_); refine Kd.R_lit (Kd.int .i64) _ 3 ?hg (N := 45) ?hd (xs := ([4, 4] : List Int)) (inner := [.int .i64 4, .int .i64 4]) (ok := fun _ => True) (okp := fun _ => True) ?hr ?hp (fun _ hk => hk) trivial (Below.refl _ _) (Nat.le_refl _) (by simp) ?_; (case hd => rfl); (case hg => rfl); (case hr => first | (go_simp; done) | (go_simp; rfl)); (case hp => exact (Reps.one (show Kd.M (Kd.int .i64) _ _ _ 4 [.int .i64 4] from rfl) (Reps.one (show Kd.M (Kd.int .i64) _ _ _ 4 [.int .i64 4] from rfl) (Reps.none _ _)))); intro v128 w43 ho44 hb hg_ hnew_; clear hg_ hnew_; (first | rw [← Ny127.out] at ho44 | (simp only [Int.reduceToNat] at ho44; rw [← Ny127.out] at ho44)); have n0_ := Aside0.mk (Kd.R_lower ho44 (below_size (by repeat (first | (with_reducible first | exact HB.out | apply below_alloc | apply pw_below_drewN | apply below_drew1) | exact HB.out)))); have n1_ := Aside0.mk (below_step (by repeat (first | (with_reducible first | exact HB.out | apply below_alloc | apply pw_below_drewN | apply below_drew1) | exact HB.out)) hb); clear HB; have HO129 := n0_; have HB := n1_; clear n0_ n1_; clear hb ho44))
                                                  go_ret2
                                                  exact ⟨_, by first | rfl | (simp [errW_none, errW_some] <;> rfl) | (simp [*, errW_none, errW_some] <;> rfl), by (with_reducible repeat (first | apply Kd.R_alloc | apply Kd.R_drewN | apply Kd.R_drew)); exact HO129.out, by repeat (first | (with_reducible first | exact HB.out | apply below_alloc | apply pw_below_drewN | apply below_drew1) | exact HB.out)⟩
                                                · rw [if_neg c42] at H
                                                  have c42b0 : (a0 == 21) = false := beq_eq_false_iff_ne.mpr c42
                                                  have c42b1 : (a0 != 21) = true := bne_iff_ne.mpr c42
                                                  have HC45 := Aside0.mk H
                                                  clear H
                                                  go_upto_if 46 with (fail)
                                                  go_cut [46] (fun v46 wc => ∃ (kq : Nat) (x46_44 : Bool), v46 = .bool x46_44 ∧ Aside0 (ashlarref03_shape.j6 kq a0 x46_44 = some (r1, r2)) ∧ Aside0 (kq ≤ kj36) ∧ Aside0 (Below w.heap.size w wc))
                                                  case first =>
                                                    have H := HC45.out
                                                    clear HC45
                                                    by_cases c46 : a0 = 22
                                                    · rw [if_pos c46] at H
                                                      have c46b0 : (a0 == 22) = true := beq_iff_eq.mpr c46
                                                      have c46b1 : (a0 != 22) = false := bne_eq_false_iff_eq.mpr c46
                                                      clear c46
                                                      (first | rw [c46b0] | (simp only [i64_w, i32_w]; rw [c46b0]) | skip)
                                                      have H' := Aside0.mk H
                                                      clear H
                                                      go_wp2
                                                      go_meet
                                                      case rel => exact ⟨_, ((a0 == 22)), (by first | rfl | (simp; done) | (simp [*]; done)), H', ⟨by have := HJ1.out; have := HJ7.out; have := HJ15.out; have := HJ22.out; have := HJ29.out; have := HJ36.out; first | omega | exact Nat.le_refl _⟩, ⟨by repeat (first | (with_reducible first | exact HB.out | apply below_alloc | apply pw_below_drewN | apply below_drew1) | exact HB.out)⟩⟩
                                                    · rw [if_neg c46] at H
                                                      have c46b0 : (a0 == 22) = false := beq_eq_false_iff_ne.mpr c46
                                                      have c46b1 : (a0 != 22) = true := bne_iff_ne.mpr c46
                                                      (first | rw [c46b0] | (simp only [i64_w, i32_w]; rw [c46b0]) | skip)
                                                      by_cases c47 : a0 = 23
                                                      · rw [if_pos c47] at H
                                                        have c47b0 : (a0 == 23) = true := beq_iff_eq.mpr c47
                                                        have c47b1 : (a0 != 23) = false := bne_eq_false_iff_eq.mpr c47
                                                        clear c47
                                                        have H' := Aside0.mk H
                                                        clear H
                                                        go_wp2
                                                        go_meet
                                                        case rel => exact ⟨_, ((a0 == 23)), (by first | rfl | (simp; done) | (simp [*]; done)), H', ⟨by have := HJ1.out; have := HJ7.out; have := HJ15.out; have := HJ22.out; have := HJ29.out; have := HJ36.out; first | omega | exact Nat.le_refl _⟩, ⟨by repeat (first | (with_reducible first | exact HB.out | apply below_alloc | apply pw_below_drewN | apply below_drew1) | exact HB.out)⟩⟩
                                                      · rw [if_neg c47] at H
                                                        have c47b0 : (a0 == 23) = false := beq_eq_false_iff_ne.mpr c47
                                                        have c47b1 : (a0 != 23) = true := bne_iff_ne.mpr c47
                                                        have H' := Aside0.mk H
                                                        clear H
                                                        go_wp2
                                                        go_meet
                                                        case rel => exact ⟨_, ((a0 == 24)), (by first | rfl | (simp; done) | (simp [*]; done)), H', ⟨by have := HJ1.out; have := HJ7.out; have := HJ15.out; have := HJ22.out; have := HJ29.out; have := HJ36.out; first | omega | exact Nat.le_refl _⟩, ⟨by repeat (first | (with_reducible first | exact HB.out | apply below_alloc | apply pw_below_drewN | apply below_drew1) | exact HB.out)⟩⟩
                                                  case rest =>
                                                    clear HC45
                                                    try clear c1
                                                    try clear c2
                                                    try clear p2
                                                    try clear c3
                                                    try clear c3b0
                                                    try clear c3b1
                                                    try clear c4
                                                    try clear c5
                                                    try clear c5b0
                                                    try clear c5b1
                                                    try clear c9
                                                    try clear c9b0
                                                    try clear c9b1
                                                    try clear c10
                                                    try clear c13
                                                    try clear c13b0
                                                    try clear c13b1
                                                    try clear c17
                                                    try clear c17b0
                                                    try clear c17b1
                                                    try clear c18
                                                    try clear c18b0
                                                    try clear c18b1
                                                    try clear c19
                                                    try clear c20
                                                    try clear c20b0
                                                    try clear c20b1
                                                    try clear c24
                                                    try clear c24b0
                                                    try clear c24b1
                                                    try clear c25
                                                    try clear c25b0
                                                    try clear c25b1
                                                    try clear c26
                                                    try clear c29
                                                    try clear c29b0
                                                    try clear c29b1
                                                    try clear c31
                                                    try clear c31b0
                                                    try clear c31b1
                                                    try clear c32
                                                    try clear c32b0
                                                    try clear c32b1
                                                    try clear c33
                                                    try clear c34
                                                    try clear c34b0
                                                    try clear c34b1
                                                    try clear c38
                                                    try clear c38b0
                                                    try clear c38b1
                                                    try clear c39
                                                    try clear c42
                                                    try clear c42b0
                                                    try clear c42b1
                                                    try clear c46
                                                    try clear c46b0
                                                    try clear c46b1
                                                    try clear c47
                                                    try clear c47b0
                                                    try clear c47b1
                                                    try clear p2
                                                    obtain ⟨kq, x46_44, rfl, HA, HJ44, HB⟩ := hcut
                                                    cases kq with
                                                    | zero => exact absurd HA.out (by simp [ashlarref03_shape.j6])
                                                    | succ kj44 =>
                                                      have H := HA.out
                                                      clear HA
                                                      simp only [ashlarref03_shape.j6] at H
                                                      by_cases c48 : x46_44 = true
                                                      · subst c48
                                                        have H1 : (some (4, (([1, 1] : List Int)))) = some (r1, r2) := by rw [if_pos rfl] at H; exact H
                                                        clear H
                                                        have H := H1
                                                        clear H1
                                                        obtain ⟨y130, hy130⟩ : ∃ y_ : List Int, y_ = (([1, 1] : List Int)) := ⟨_, rfl⟩
                                                        replace H : (some (4, y130)) = some (r1, r2) := by first | (rw [hy130]; with_reducible exact H) | (have H2_ := (Option.bind_some _ _).symm.trans H; rw [hy130]; with_reducible exact H2_) | (have H2_ := (Option.bind_some _ _).symm.trans H; with_reducible exact H2_) | with_reducible exact H | (rw [hy130]; exact H) | exact H
                                                        have Ny130 := Aside0.mk hy130
                                                        clear hy130
                                                        simp only [Option.some.injEq, Prod.mk.injEq] at H
                                                        obtain ⟨rfl, rfl⟩ := H
                                                        go_wp2_with (first | ((with_reducible refine gate_dst (N := 50) rfl ?_); refine Kd.R_lit (Kd.int .i64) _ 3 ?hg (N := 50) ?hd (xs := ([1, 1] : List Int)) (inner := [.int .i64 1, .int .i64 1]) (ok := fun _ => True) (okp := fun _ => True) ?hr ?hp (fun _ hk => hk) trivial (Below.refl _ _) (Nat.le_refl _) (by simp) ?_; (case hd => rfl); (case hg => rfl); (case hr => first | (go_simp; done) | (go_simp; rfl)); (case hp => exact (Reps.one (show Kd.M (Kd.int .i64) _ _ _ 1 [.int .i64 1] from rfl) (Reps.one (show Kd.M (Kd.int .i64) _ _ _ 1 [.int .i64 1] from rfl) (Reps.none _ _)))); intro v131 w49 ho50 hb hg_ hnew_; clear hg_ hnew_; (first | rw [← Ny130.out] at ho50 | (simp only [Int.reduceToNat] at ho50; rw [← Ny130.out] at ho50)); have n0_ := Aside0.mk (Kd.R_lower ho50 (below_size (by repeat (first | (with_reducible first | exact HB.out | apply below_alloc | apply pw_below_drewN | apply below_drew1) | exact HB.out)))); have n1_ := Aside0.mk (below_step (by repeat (first | (with_reducible first | exact HB.out | apply below_alloc | apply pw_below_drewN | apply below_drew1) | exact HB.out)) hb); clear HB; have HO132 := n0_; have HB := n1_; clear n0_ n1_; clear hb ho50))
                                                        go_ret2
                                                        exact ⟨_, by first | rfl | (simp [errW_none, errW_some] <;> rfl) | (simp [*, errW_none, errW_some] <;> rfl), by (with_reducible repeat (first | apply Kd.R_alloc | apply Kd.R_drewN | apply Kd.R_drew)); exact HO132.out, by repeat (first | (with_reducible first | exact HB.out | apply below_alloc | apply pw_below_drewN | apply below_drew1) | exact HB.out)⟩
                                                      · replace c48 := Bool.eq_false_iff.mpr c48
                                                        subst c48
                                                        have H1 : (if a0 = 25 then (some (4, (([3, 2] : List Int)))) else (if a0 = 26 then (ashlarref03_shape.j7 kj44 a0 (a0 == 26)) else (ashlarref03_shape.j7 kj44 a0 (a0 == 27)))) = some (r1, r2) := by rw [if_neg (show ¬ (false = true) by decide)] at H; exact H
                                                        clear H
                                                        have H := H1
                                                        clear H1
                                                        by_cases c51 : a0 = 25
                                                        · rw [if_pos c51] at H
                                                          have c51b0 : (a0 == 25) = true := beq_iff_eq.mpr c51
                                                          have c51b1 : (a0 != 25) = false := bne_eq_false_iff_eq.mpr c51
                                                          clear c51
                                                          obtain ⟨y133, hy133⟩ : ∃ y_ : List Int, y_ = (([3, 2] : List Int)) := ⟨_, rfl⟩
                                                          replace H : (some (4, y133)) = some (r1, r2) := by first | (rw [hy133]; with_reducible exact H) | (have H2_ := (Option.bind_some _ _).symm.trans H; rw [hy133]; with_reducible exact H2_) | (have H2_ := (Option.bind_some _ _).symm.trans H; with_reducible exact H2_) | with_reducible exact H | (rw [hy133]; exact H) | exact H
                                                          have Ny133 := Aside0.mk hy133
                                                          clear hy133
                                                          simp only [Option.some.injEq, Prod.mk.injEq] at H
                                                          obtain ⟨rfl, rfl⟩ := H
                                                          go_wp2_with (first | ((with_reducible refine gate_dst (N := 53) rfl ?_); refine Kd.R_lit (Kd.int .i64) _ 3 ?hg (N := 53) ?hd (xs := ([3, 2] : List Int)) (inner := [.int .i64 3, .int .i64 2]) (ok := fun _ => True) (okp := fun _ => True) ?hr ?hp (fun _ hk => hk) trivial (Below.refl _ _) (Nat.le_refl _) (by simp) ?_; (case hd => rfl); (case hg => rfl); (case hr => first | (go_simp; done) | (go_simp; rfl)); (case hp => exact (Reps.one (show Kd.M (Kd.int .i64) _ _ _ 3 [.int .i64 3] from rfl) (Reps.one (show Kd.M (Kd.int .i64) _ _ _ 2 [.int .i64 2] from rfl) (Reps.none _ _)))); intro v134 w52 ho53 hb hg_ hnew_; clear hg_ hnew_; (first | rw [← Ny133.out] at ho53 | (simp only [Int.reduceToNat] at ho53; rw [← Ny133.out] at ho53)); have n0_ := Aside0.mk (Kd.R_lower ho53 (below_size (by repeat (first | (with_reducible first | exact HB.out | apply below_alloc | apply pw_below_drewN | apply below_drew1) | exact HB.out)))); have n1_ := Aside0.mk (below_step (by repeat (first | (with_reducible first | exact HB.out | apply below_alloc | apply pw_below_drewN | apply below_drew1) | exact HB.out)) hb); clear HB; have HO135 := n0_; have HB := n1_; clear n0_ n1_; clear hb ho53))
                                                          go_ret2
                                                          exact ⟨_, by first | rfl | (simp [errW_none, errW_some] <;> rfl) | (simp [*, errW_none, errW_some] <;> rfl), by (with_reducible repeat (first | apply Kd.R_alloc | apply Kd.R_drewN | apply Kd.R_drew)); exact HO135.out, by repeat (first | (with_reducible first | exact HB.out | apply below_alloc | apply pw_below_drewN | apply below_drew1) | exact HB.out)⟩
                                                        · rw [if_neg c51] at H
                                                          have c51b0 : (a0 == 25) = false := beq_eq_false_iff_ne.mpr c51
                                                          have c51b1 : (a0 != 25) = true := bne_iff_ne.mpr c51
                                                          have HC54 := Aside0.mk H
                                                          clear H
                                                          go_upto_if 54 with (fail)
                                                          go_cut [54] (fun v54 wc => ∃ (kq : Nat) (x54_53 : Bool), v54 = .bool x54_53 ∧ Aside0 (ashlarref03_shape.j7 kq a0 x54_53 = some (r1, r2)) ∧ Aside0 (kq ≤ kj44) ∧ Aside0 (Below w.heap.size w wc))
                                                          case first =>
                                                            have H := HC54.out
                                                            clear HC54
                                                            by_cases c55 : a0 = 26
                                                            · rw [if_pos c55] at H
                                                              have c55b0 : (a0 == 26) = true := beq_iff_eq.mpr c55
                                                              have c55b1 : (a0 != 26) = false := bne_eq_false_iff_eq.mpr c55
                                                              clear c55
                                                              (first | rw [c55b0] | (simp only [i64_w, i32_w]; rw [c55b0]) | skip)
                                                              have H' := Aside0.mk H
                                                              clear H
                                                              go_wp2
                                                              go_meet
                                                              case rel => exact ⟨_, ((a0 == 26)), (by first | rfl | (simp; done) | (simp [*]; done)), H', ⟨by have := HJ1.out; have := HJ7.out; have := HJ15.out; have := HJ22.out; have := HJ29.out; have := HJ36.out; have := HJ44.out; first | omega | exact Nat.le_refl _⟩, ⟨by repeat (first | (with_reducible first | exact HB.out | apply below_alloc | apply pw_below_drewN | apply below_drew1) | exact HB.out)⟩⟩
                                                            · rw [if_neg c55] at H
                                                              have c55b0 : (a0 == 26) = false := beq_eq_false_iff_ne.mpr c55
                                                              have c55b1 : (a0 != 26) = true := bne_iff_ne.mpr c55
                                                              (first | rw [c55b0] | (simp only [i64_w, i32_w]; rw [c55b0]) | skip)
                                                              have H' := Aside0.mk H
                                                              clear H
                                                              go_wp2
                                                              go_meet
                                                              case rel => exact ⟨_, ((a0 == 27)), (by first | rfl | (simp; done) | (simp [*]; done)), H', ⟨by have := HJ1.out; have := HJ7.out; have := HJ15.out; have := HJ22.out; have := HJ29.out; have := HJ36.out; have := HJ44.out; first | omega | exact Nat.le_refl _⟩, ⟨by repeat (first | (with_reducible first | exact HB.out | apply below_alloc | apply pw_below_drewN | apply below_drew1) | exact HB.out)⟩⟩
                                                          case rest =>
                                                            clear HC54
                                                            try clear c1
                                                            try clear c2
                                                            try clear p2
                                                            try clear c3
                                                            try clear c3b0
                                                            try clear c3b1
                                                            try clear c4
                                                            try clear c5
                                                            try clear c5b0
                                                            try clear c5b1
                                                            try clear c9
                                                            try clear c9b0
                                                            try clear c9b1
                                                            try clear c10
                                                            try clear c13
                                                            try clear c13b0
                                                            try clear c13b1
                                                            try clear c17
                                                            try clear c17b0
                                                            try clear c17b1
                                                            try clear c18
                                                            try clear c18b0
                                                            try clear c18b1
                                                            try clear c19
                                                            try clear c20
                                                            try clear c20b0
                                                            try clear c20b1
                                                            try clear c24
                                                            try clear c24b0
                                                            try clear c24b1
                                                            try clear c25
                                                            try clear c25b0
                                                            try clear c25b1
                                                            try clear c26
                                                            try clear c29
                                                            try clear c29b0
                                                            try clear c29b1
                                                            try clear c31
                                                            try clear c31b0
                                                            try clear c31b1
                                                            try clear c32
                                                            try clear c32b0
                                                            try clear c32b1
                                                            try clear c33
                                                            try clear c34
                                                            try clear c34b0
                                                            try clear c34b1
                                                            try clear c38
                                                            try clear c38b0
                                                            try clear c38b1
                                                            try clear c39
                                                            try clear c42
                                                            try clear c42b0
                                                            try clear c42b1
                                                            try clear c46
                                                            try clear c46b0
                                                            try clear c46b1
                                                            try clear c47
                                                            try clear c47b0
                                                            try clear c47b1
                                                            try clear c48
                                                            try clear c51
                                                            try clear c51b0
                                                            try clear c51b1
                                                            try clear c55
                                                            try clear c55b0
                                                            try clear c55b1
                                                            try clear p2
                                                            obtain ⟨kq, x54_53, rfl, HA, HJ53, HB⟩ := hcut
                                                            cases kq with
                                                            | zero => exact absurd HA.out (by simp [ashlarref03_shape.j7])
                                                            | succ kj53 =>
                                                              have H := HA.out
                                                              clear HA
                                                              simp only [ashlarref03_shape.j7] at H
                                                              by_cases c56 : x54_53 = true
                                                              · subst c56
                                                                have H1 : (some (4, (([2, 2] : List Int)))) = some (r1, r2) := by rw [if_pos rfl] at H; exact H
                                                                clear H
                                                                have H := H1
                                                                clear H1
                                                                obtain ⟨y136, hy136⟩ : ∃ y_ : List Int, y_ = (([2, 2] : List Int)) := ⟨_, rfl⟩
                                                                replace H : (some (4, y136)) = some (r1, r2) := by first | (rw [hy136]; with_reducible exact H) | (have H2_ := (Option.bind_some _ _).symm.trans H; rw [hy136]; with_reducible exact H2_) | (have H2_ := (Option.bind_some _ _).symm.trans H; with_reducible exact H2_) | with_reducible exact H | (rw [hy136]; exact H) | exact H
                                                                have Ny136 := Aside0.mk hy136
                                                                clear hy136
                                                                simp only [Option.some.injEq, Prod.mk.injEq] at H
                                                                obtain ⟨rfl, rfl⟩ := H
                                                                go_wp2_with (first | ((with_reducible refine gate_dst (N := 57) rfl ?_); refine Kd.R_lit (Kd.int .i64) _ 3 ?hg (N := 57) ?hd (xs := ([2, 2] : List Int)) (inner := [.int .i64 2, .int .i64 2]) (ok := fun _ => True) (okp := fun _ => True) ?hr ?hp (fun _ hk => hk) trivial (Below.refl _ _) (Nat.le_refl _) (by simp) ?_; (case hd => rfl); (case hg => rfl); (case hr => first | (go_simp; done) | (go_simp; rfl)); (case hp => exact (Reps.one (show Kd.M (Kd.int .i64) _ _ _ 2 [.int .i64 2] from rfl) (Reps.one (show Kd.M (Kd.int .i64) _ _ _ 2 [.int .i64 2] from rfl) (Reps.none _ _)))); intro v137 w57 ho58 hb hg_ hnew_; clear hg_ hnew_; (first | rw [← Ny136.out] at ho58 | (simp only [Int.reduceToNat] at ho58; rw [← Ny136.out] at ho58)); have n0_ := Aside0.mk (Kd.R_lower ho58 (below_size (by repeat (first | (with_reducible first | exact HB.out | apply below_alloc | apply pw_below_drewN | apply below_drew1) | exact HB.out)))); have n1_ := Aside0.mk (below_step (by repeat (first | (with_reducible first | exact HB.out | apply below_alloc | apply pw_below_drewN | apply below_drew1) | exact HB.out)) hb); clear HB; have HO138 := n0_; have HB := n1_; clear n0_ n1_; clear hb ho58))
                                                                go_ret2
                                                                exact ⟨_, by first | rfl | (simp [errW_none, errW_some] <;> rfl) | (simp [*, errW_none, errW_some] <;> rfl), by (with_reducible repeat (first | apply Kd.R_alloc | apply Kd.R_drewN | apply Kd.R_drew)); exact HO138.out, by repeat (first | (with_reducible first | exact HB.out | apply below_alloc | apply pw_below_drewN | apply below_drew1) | exact HB.out)⟩
                                                              · replace c56 := Bool.eq_false_iff.mpr c56
                                                                subst c56
                                                                have H1 : (if a0 = 28 then (some (4, (([3, 3] : List Int)))) else (some (0, ([] : List Int)))) = some (r1, r2) := by rw [if_neg (show ¬ (false = true) by decide)] at H; exact H
                                                                clear H
                                                                have H := H1
                                                                clear H1
                                                                by_cases c59 : a0 = 28
                                                                · rw [if_pos c59] at H
                                                                  have c59b0 : (a0 == 28) = true := beq_iff_eq.mpr c59
                                                                  have c59b1 : (a0 != 28) = false := bne_eq_false_iff_eq.mpr c59
                                                                  clear c59
                                                                  obtain ⟨y139, hy139⟩ : ∃ y_ : List Int, y_ = (([3, 3] : List Int)) := ⟨_, rfl⟩
                                                                  replace H : (some (4, y139)) = some (r1, r2) := by first | (rw [hy139]; with_reducible exact H) | (have H2_ := (Option.bind_some _ _).symm.trans H; rw [hy139]; with_reducible exact H2_) | (have H2_ := (Option.bind_some _ _).symm.trans H; with_reducible exact H2_) | with_reducible exact H | (rw [hy139]; exact H) | exact H
                                                                  have Ny139 := Aside0.mk hy139
                                                                  clear hy139
                                                                  simp only [Option.some.injEq, Prod.mk.injEq] at H
                                                                  obtain ⟨rfl, rfl⟩ := H
                                                                  go_wp2_with (first | ((with_reducible refine gate_dst (N := 60) rfl ?_); refine Kd.R_lit (Kd.int .i64) _ 3 ?hg (N := 60) ?hd (xs := ([3, 3] : List Int)) (inner := [.int .i64 3, .int .i64 3]) (ok := fun _ => True) (okp := fun _ => True) ?hr ?hp (fun _ hk => hk) trivial (Below.refl _ _) (Nat.le_refl _) (by simp) ?_; (case hd => rfl); (case hg => rfl); (case hr => first | (go_simp; done) | (go_simp; rfl)); (case hp => exact (Reps.one (show Kd.M (Kd.int .i64) _ _ _ 3 [.int .i64 3] from rfl) (Reps.one (show Kd.M (Kd.int .i64) _ _ _ 3 [.int .i64 3] from rfl) (Reps.none _ _)))); intro v140 w60 ho61 hb hg_ hnew_; clear hg_ hnew_; (first | rw [← Ny139.out] at ho61 | (simp only [Int.reduceToNat] at ho61; rw [← Ny139.out] at ho61)); have n0_ := Aside0.mk (Kd.R_lower ho61 (below_size (by repeat (first | (with_reducible first | exact HB.out | apply below_alloc | apply pw_below_drewN | apply below_drew1) | exact HB.out)))); have n1_ := Aside0.mk (below_step (by repeat (first | (with_reducible first | exact HB.out | apply below_alloc | apply pw_below_drewN | apply below_drew1) | exact HB.out)) hb); clear HB; have HO141 := n0_; have HB := n1_; clear n0_ n1_; clear hb ho61))
                                                                  go_ret2
                                                                  exact ⟨_, by first | rfl | (simp [errW_none, errW_some] <;> rfl) | (simp [*, errW_none, errW_some] <;> rfl), by (with_reducible repeat (first | apply Kd.R_alloc | apply Kd.R_drewN | apply Kd.R_drew)); exact HO141.out, by repeat (first | (with_reducible first | exact HB.out | apply below_alloc | apply pw_below_drewN | apply below_drew1) | exact HB.out)⟩
                                                                · rw [if_neg c59] at H
                                                                  have c59b0 : (a0 == 28) = false := beq_eq_false_iff_ne.mpr c59
                                                                  have c59b1 : (a0 != 28) = true := bne_iff_ne.mpr c59
                                                                  simp only [Option.some.injEq, Prod.mk.injEq] at H
                                                                  obtain ⟨rfl, rfl⟩ := H
                                                                  go_wp2
                                                                  go_ret2
                                                                  exact ⟨_, by first | rfl | (simp [errW_none, errW_some] <;> rfl) | (simp [*, errW_none, errW_some] <;> rfl), by first | exact Kd.R_nil _ _ _ _ _ | exact Kd.N_nil _ _ _ _ _ | exact Kd.V_nil _ _ _ _ _ | exact Kd.Q_nil _ _ _ _ _ | exact Kd.S_nil _ _ _ _ _, by repeat (first | (with_reducible first | exact HB.out | apply below_alloc | apply pw_below_drewN | apply below_drew1) | exact HB.out)⟩

/-! ### ashlarref03_letter: function 54 -/
def ashlarref03_letter.f (a0 : Int) : Option (Bool) := if a0 ≥ 97 then (if a0 ≤ 122 then (some true) else (if a0 ≥ 65 then (some (decide (a0 ≤ 90))) else (some false))) else (if a0 ≥ 65 then (some (decide (a0 ≤ 90))) else (some false))
set_option maxHeartbeats 8000000 in
set_option maxRecDepth 100000 in
theorem ashlarref03_letter.calls (a0 : Int) (r : Bool) (w : World) (h : ashlarref03_letter.f a0 = some r) :
    Calls Tryd.prog 54 #[.int .u8 a0] w fun e w' => e = .returned (.bool r) ∧ Drawn0 w w' := by
  have H : (if a0 ≥ 97 then (if a0 ≤ 122 then (some true) else (if a0 ≥ 65 then (some (decide (a0 ≤ 90))) else (some false))) else (if a0 ≥ 65 then (some (decide (a0 ≤ 90))) else (some false))) = some r := h
  clear h
  by_cases c2 : a0 ≥ 97
  · rw [if_pos c2] at H
    have c2b0 : decide (97 ≤ a0) = true := decide_eq_true c2
    clear c2
    by_cases c3 : a0 ≤ 122
    · rw [if_pos c3] at H
      have c3b0 : decide (a0 ≤ 122) = true := decide_eq_true c3
      clear c3
      obtain rfl := Option.some.inj H
      go_enter Tryd.func54, Tryd.ntmps54
      go_wp2
      go_ret
      exact ⟨by first | rfl | (simp; done) | (simp [*]; done), by repeat (first | exact Drawn0.refl _ | apply Drawn0.step)⟩
    · rw [if_neg c3] at H
      have c3b0 : decide (a0 ≤ 122) = false := decide_eq_false c3
      clear c3
      by_cases c4 : a0 ≥ 65
      · rw [if_pos c4] at H
        have c4b0 : decide (65 ≤ a0) = true := decide_eq_true c4
        clear c4
        obtain rfl := Option.some.inj H
        go_enter Tryd.func54, Tryd.ntmps54
        go_wp2
        go_ret
        exact ⟨by first | rfl | (simp; done) | (simp [*]; done), by repeat (first | exact Drawn0.refl _ | apply Drawn0.step)⟩
      · rw [if_neg c4] at H
        have c4b0 : decide (65 ≤ a0) = false := decide_eq_false c4
        clear c4
        obtain rfl := Option.some.inj H
        go_enter Tryd.func54, Tryd.ntmps54
        go_wp2
        go_ret
        exact ⟨by first | rfl | (simp; done) | (simp [*]; done), by repeat (first | exact Drawn0.refl _ | apply Drawn0.step)⟩
  · rw [if_neg c2] at H
    have c2b0 : decide (97 ≤ a0) = false := decide_eq_false c2
    clear c2
    by_cases c5 : a0 ≥ 65
    · rw [if_pos c5] at H
      have c5b0 : decide (65 ≤ a0) = true := decide_eq_true c5
      clear c5
      obtain rfl := Option.some.inj H
      go_enter Tryd.func54, Tryd.ntmps54
      go_wp2
      go_ret
      exact ⟨by first | rfl | (simp; done) | (simp [*]; done), by repeat (first | exact Drawn0.refl _ | apply Drawn0.step)⟩
    · rw [if_neg c5] at H
      have c5b0 : decide (65 ≤ a0) = false := decide_eq_false c5
      clear c5
      obtain rfl := Option.some.inj H
      go_enter Tryd.func54, Tryd.ntmps54
      go_wp2
      go_ret
      exact ⟨by first | rfl | (simp; done) | (simp [*]; done), by repeat (first | exact Drawn0.refl _ | apply Drawn0.step)⟩

/-! ### ashlarref03_Name: function 48 -/
mutual
def ashlarref03_Name.j0 : Nat → ByteArray → Bool → Option (Bool)
  | 0, _, _ => none
  | k + 1, x0, x16 => if x16 = true then (some false) else (ashlarref03_Name.l0 k x0 0)
def ashlarref03_Name.l0 : Nat → ByteArray → Int → Option (Bool)
  | 0, _, _ => none
  | k + 1, x0, x3 => if x3 < (x0.size : Int) then (if 0 ≤ x3 then ((ashlarref03_letter.f (bt x0 x3)).bind fun t143 => (if t143 = true then (ashlarref03_Name.l0 k x0 (wrap64 (x3 + 1))) else (if (bt x0 x3) < 48 then (if (bt x0 x3) = 95 then (ashlarref03_Name.l0 k x0 (wrap64 (x3 + 1))) else (some false)) else (if (bt x0 x3) > 57 then (if (bt x0 x3) = 95 then (ashlarref03_Name.l0 k x0 (wrap64 (x3 + 1))) else (some false)) else (ashlarref03_Name.l0 k x0 (wrap64 (x3 + 1))))))) else (none)) else (some true)
end
def ashlarref03_Name.f (k : Nat) (a0 : ByteArray) : Option (Bool) := if a0.toList = ([] : List UInt8) then (ashlarref03_Name.j0 k a0 true) else (if (a0.size : Int) > 16 then (ashlarref03_Name.j0 k a0 true) else (if 0 < (a0.size : Int) then ((ashlarref03_letter.f (bt a0 0)).bind fun t142 => (ashlarref03_Name.j0 k a0 (!t142))) else (none)))
theorem ashlarref03_Name.mono_l : ∀ k, (∀ y0 y1, LeO (ashlarref03_Name.j0 k y0 y1) (ashlarref03_Name.j0 (k + 1) y0 y1)) ∧ (∀ y0 y1, LeO (ashlarref03_Name.l0 k y0 y1) (ashlarref03_Name.l0 (k + 1) y0 y1))
  | 0 => ⟨fun _ _ r h => by simp [ashlarref03_Name.j0] at h, fun _ _ r h => by simp [ashlarref03_Name.l0] at h⟩
  | k + 1 => by
    obtain ⟨ih0, ih1⟩ := ashlarref03_Name.mono_l k
    refine ⟨?_, ?_⟩
    · intro y0 y1
      unfold ashlarref03_Name.j0
      repeat' first
      | (with_reducible exact ih0 _ _)
      | (with_reducible exact ih1 _ _)
      | (with_reducible exact LeO.refl _)
      | (with_reducible exact LeO.none _)
      | (with_reducible refine LeO.ite ?_ ?_)
      | (with_reducible refine LeO.bind ?_ (fun _ => ?_))
      | exact ih0 _ _
      | exact ih1 _ _
      | exact LeO.none _
      | refine LeO.ite ?_ ?_
      | refine LeO.bind ?_ (fun _ => ?_)
    · intro y0 y1
      unfold ashlarref03_Name.l0
      repeat' first
      | (with_reducible exact ih0 _ _)
      | (with_reducible exact ih1 _ _)
      | (with_reducible exact LeO.refl _)
      | (with_reducible exact LeO.none _)
      | (with_reducible refine LeO.ite ?_ ?_)
      | (with_reducible refine LeO.bind ?_ (fun _ => ?_))
      | exact ih0 _ _
      | exact ih1 _ _
      | exact LeO.none _
      | refine LeO.ite ?_ ?_
      | refine LeO.bind ?_ (fun _ => ?_)
theorem ashlarref03_Name.mono : ∀ a0 k, LeO (ashlarref03_Name.f k a0) (ashlarref03_Name.f (k + 1) a0) := by
  intro a0 k
  obtain ⟨ih0, ih1⟩ := ashlarref03_Name.mono_l k
  unfold ashlarref03_Name.f
  repeat' first
      | (with_reducible exact ih0 _ _)
      | (with_reducible exact ih1 _ _)
      | (with_reducible exact LeO.refl _)
      | (with_reducible exact LeO.none _)
      | (with_reducible refine LeO.ite ?_ ?_)
      | (with_reducible refine LeO.bind ?_ (fun _ => ?_))
      | exact ih0 _ _
      | exact ih1 _ _
      | exact LeO.none _
      | refine LeO.ite ?_ ?_
      | refine LeO.bind ?_ (fun _ => ?_)
set_option maxHeartbeats 8000000 in
set_option maxRecDepth 100000 in
theorem ashlarref03_Name.calls (k : Nat) (a0 : ByteArray) (r : Bool) (w : World) (h : ashlarref03_Name.f k a0 = some r) :
    Calls Tryd.prog 48 #[.string a0] w fun e w' => e = .returned (.bool r) ∧ Drawn0 w w' := by
  have H : (if a0.toList = ([] : List UInt8) then (ashlarref03_Name.j0 k a0 true) else (if (a0.size : Int) > 16 then (ashlarref03_Name.j0 k a0 true) else (if 0 < (a0.size : Int) then ((ashlarref03_letter.f (bt a0 0)).bind fun t142 => (ashlarref03_Name.j0 k a0 (!t142))) else (none)))) = some r := h
  clear h
  have HC2 := Aside0.mk H
  clear H
  go_enter Tryd.func48, Tryd.ntmps48
  go_upto_region 1 with (fail)
  go_cut [16] (fun v16 wc => ∃ (kq : Nat) (x16_1 : Bool), v16 = .bool x16_1 ∧ Aside0 (ashlarref03_Name.j0 kq a0 x16_1 = some r) ∧ Aside0 (kq ≤ k) ∧ Drawn0 w wc)
  case first =>
    have H := HC2.out
    clear HC2
    by_cases c3 : a0.toList = ([] : List UInt8)
    · rw [if_pos c3] at H
      have c3b0 : (a0.toList == ([] : List UInt8)) = true := beq_iff_eq.mpr c3
      have c3b1 : (a0.toList != ([] : List UInt8)) = false := bne_eq_false_iff_eq.mpr c3
      clear c3
      (first | rw [c3b0] | (simp only [i64_w, i32_w]; rw [c3b0]) | skip)
      have H' := Aside0.mk H
      clear H
      go_wp2
      go_meet
      case rel => exact ⟨_, (true), (by first | rfl | (simp; done) | (simp [*]; done)), H', ⟨by first | omega | exact Nat.le_refl _⟩, by repeat (first | exact Drawn0.refl _ | apply Drawn0.step)⟩
    · rw [if_neg c3] at H
      have c3b0 : (a0.toList == ([] : List UInt8)) = false := beq_eq_false_iff_ne.mpr c3
      have c3b1 : (a0.toList != ([] : List UInt8)) = true := bne_iff_ne.mpr c3
      (first | rw [c3b0] | (simp only [i64_w, i32_w]; rw [c3b0]) | skip)
      by_cases c4 : (a0.size : Int) > 16
      · rw [if_pos c4] at H
        have c4b0 : decide (16 < (a0.size : Int)) = true := decide_eq_true c4
        have c4b1 : decide (16 < a0.size) = true := decide_eq_true (by omega)
        clear c4
        have H' := Aside0.mk H
        clear H
        go_wp2
        go_meet
        case rel => exact ⟨_, (true), (by first | rfl | (simp; done) | (simp [*]; done)), H', ⟨by first | omega | exact Nat.le_refl _⟩, by repeat (first | exact Drawn0.refl _ | apply Drawn0.step)⟩
      · rw [if_neg c4] at H
        have c4b0 : decide (16 < (a0.size : Int)) = false := decide_eq_false c4
        have c4b1 : decide (16 < a0.size) = false := decide_eq_false (by omega)
        clear c4
        by_cases c5 : 0 < (a0.size : Int)
        · rw [if_pos c5] at H
          have c5b0 : decide (0 < (a0.size : Int)) = true := decide_eq_true c5
          have c5b1 : decide (0 < a0.size) = true := decide_eq_true (by omega)
          clear c5
          replace H := Option.bind_eq_some_iff.mp H
          obtain ⟨t142, A70, H⟩ := H
          replace H : (ashlarref03_Name.j0 k a0 (!t142)) = some r := H
          have A7 := Aside0.mk A70
          clear A70
          have H' := Aside0.mk H
          clear H
          have p6 : 0 ≤ (0 : Int) := (by omega)
          have q6 : 0 < a0.size := (by have : (0 : Int) < (a0.size : Int) := of_decide_eq_true (by first | (with_reducible assumption) | assumption); omega)
          have hx6 : ∀ h : 0 < a0.size, ((a0[0]'h).toNat : Int) = bt a0 0 := bt_at a0 0
          clear p6
          have qi6 : (0 < (a0.size : Int)) = True := eq_true (of_decide_eq_true (by first | (with_reducible assumption) | assumption))
          replace q6 := eq_true q6
          go_wp2_with (first | (go_at_call 54; (with_reducible refine (ashlarref03_letter.calls (bt a0 0) t142 _ A7.out).mono ?_); rintro e w' ⟨rfl, ⟨nd, rfl⟩⟩))
          go_meet
          case rel => exact ⟨_, (!t142), (by first | rfl | (simp; done) | (simp [*]; done)), H', ⟨by first | omega | exact Nat.le_refl _⟩, by repeat (first | exact Drawn0.refl _ | apply Drawn0.step)⟩
        · rw [if_neg c5] at H
          exact absurd H (by simp)
  case rest =>
    clear HC2
    try clear p2
    try clear c3
    try clear c3b0
    try clear c3b1
    try clear c4
    try clear c4b0
    try clear c4b1
    try clear c5
    try clear c5b0
    try clear c5b1
    try clear p6
    try clear q6
    try clear hx6
    try clear qi6
    try clear p6
    try clear q6
    obtain ⟨kq, x16_1, rfl, HA, HJ1, ⟨mc1, rfl⟩⟩ := hcut
    cases kq with
    | zero => exact absurd HA.out (by simp [ashlarref03_Name.j0])
    | succ kj1 =>
      have H := HA.out
      clear HA
      simp only [ashlarref03_Name.j0] at H
      by_cases c8 : x16_1 = true
      · subst c8
        have H1 : (some false) = some r := by rw [if_pos rfl] at H; exact H
        clear H
        have H := H1
        clear H1
        obtain rfl := Option.some.inj H
        go_wp2
        go_ret
        exact ⟨by first | rfl | (simp; done) | (simp [*]; done), by repeat (first | exact Drawn0.refl _ | apply Drawn0.step)⟩
      · replace c8 := Bool.eq_false_iff.mpr c8
        subst c8
        have H1 : (ashlarref03_Name.l0 kj1 a0 0) = some r := by rw [if_neg (show ¬ (false = true) by decide)] at H; exact H
        clear H
        have H := H1
        clear H1
        have H' := Aside0.mk H
        clear H
        go_wp2
        go_loopg [3] kj1 (fun kq v3 w' => ∃ (x3_2 : Int), v3 = .int .i64 x3_2 ∧ Aside0 (ashlarref03_Name.l0 kq a0 x3_2 = some r) ∧ Aside0 (kq ≤ kj1) ∧ Drawn0 w w')
        case atStart => exact ⟨(0), (by first | rfl | (simp; done) | (simp [*]; done)), H', ⟨Nat.le_refl _⟩, by repeat (first | exact Drawn0.refl _ | apply Drawn0.step)⟩
        case round =>
          clear H'
          try clear c1
          try clear p2
          try clear c3
          try clear c3b0
          try clear c3b1
          try clear c4
          try clear c4b0
          try clear c4b1
          try clear c5
          try clear c5b0
          try clear c5b1
          try clear p6
          try clear q6
          try clear hx6
          try clear qi6
          try clear c8
          try clear p2
          try clear p6
          try clear q6
          obtain ⟨x3_2, rfl, HA, HK2, ⟨m2, rfl⟩⟩ := hrel
          cases gk with
          | zero => exact absurd HA.out (by simp [ashlarref03_Name.l0])
          | succ k2 =>
            have H := HA.out
            clear HA
            simp only [ashlarref03_Name.l0] at H
            by_cases c9 : x3_2 < (a0.size : Int)
            · rw [if_pos c9] at H
              have c9b0 : decide (x3_2 < (a0.size : Int)) = true := decide_eq_true c9
              clear c9
              by_cases c10 : 0 ≤ x3_2
              · rw [if_pos c10] at H
                have c10b0 : decide (0 ≤ x3_2) = true := decide_eq_true c10
                clear c10
                replace H := Option.bind_eq_some_iff.mp H
                obtain ⟨t143, A120, H⟩ := H
                replace H : (if t143 = true then (ashlarref03_Name.l0 k2 a0 (wrap64 (x3_2 + 1))) else (if (bt a0 x3_2) < 48 then (if (bt a0 x3_2) = 95 then (ashlarref03_Name.l0 k2 a0 (wrap64 (x3_2 + 1))) else (some false)) else (if (bt a0 x3_2) > 57 then (if (bt a0 x3_2) = 95 then (ashlarref03_Name.l0 k2 a0 (wrap64 (x3_2 + 1))) else (some false)) else (ashlarref03_Name.l0 k2 a0 (wrap64 (x3_2 + 1)))))) = some r := H
                have A12 := Aside0.mk A120
                clear A120
                by_cases c13 : t143 = true
                · subst c13
                  have H1 : (ashlarref03_Name.l0 k2 a0 (wrap64 (x3_2 + 1))) = some r := by rw [if_pos rfl] at H; exact H
                  clear H
                  have H := H1
                  clear H1
                  have H' := Aside0.mk H
                  clear H
                  have p11 : 0 ≤ (x3_2 : Int) := of_decide_eq_true (by first | (with_reducible assumption) | assumption)
                  have q11 : x3_2 < (a0.size : Int) := of_decide_eq_true (by first | (with_reducible assumption) | assumption)
                  have hx11 := bt_at a0 x3_2
                  replace p11 := eq_true p11
                  replace q11 := eq_true q11
                  go_wp2_with (first | ((with_reducible refine gate_callee (f := 54) rfl ?_); refine goesL_ (some 26) rfl rfl Tryd.func54 (by kernel_rfl) rfl #[.int .u8 (bt a0 x3_2)] rfl (by (try simp only [List.map_toArray, List.map_cons, List.map_nil]); first | done | rfl | (simp only [List.length_drop, List.length_take]; rfl)) ?_; (with_reducible refine (ashlarref03_letter.calls (bt a0 x3_2) true _ A12.out).mono ?_); rintro e w' ⟨rfl, ⟨nd, rfl⟩⟩; refine ⟨_, rfl, ?_⟩))
                  go_roundg k2
                  case measure => have := HJ1.out; have := HK2.out; omega
                  case rel => exact ⟨(wrap64 (x3_2 + 1)), (by first | rfl | (simp; done) | (simp [*]; done)), H', ⟨by have := HJ1.out; have := HK2.out; omega⟩, by repeat (first | exact Drawn0.refl _ | apply Drawn0.step)⟩
                · replace c13 := Bool.eq_false_iff.mpr c13
                  subst c13
                  have H1 : (if (bt a0 x3_2) < 48 then (if (bt a0 x3_2) = 95 then (ashlarref03_Name.l0 k2 a0 (wrap64 (x3_2 + 1))) else (some false)) else (if (bt a0 x3_2) > 57 then (if (bt a0 x3_2) = 95 then (ashlarref03_Name.l0 k2 a0 (wrap64 (x3_2 + 1))) else (some false)) else (ashlarref03_Name.l0 k2 a0 (wrap64 (x3_2 + 1))))) = some r := by rw [if_neg (show ¬ (false = true) by decide)] at H; exact H
                  clear H
                  have H := H1
                  clear H1
                  by_cases c15 : (bt a0 x3_2) < 48
                  · rw [if_pos c15] at H
                    have c15b0 : decide ((bt a0 x3_2) < 48) = true := decide_eq_true c15
                    clear c15
                    by_cases c17 : (bt a0 x3_2) = 95
                    · rw [if_pos c17] at H
                      have c17b0 : ((bt a0 x3_2) == 95) = true := beq_iff_eq.mpr c17
                      have c17b1 : ((bt a0 x3_2) != 95) = false := bne_eq_false_iff_eq.mpr c17
                      clear c17
                      have H' := Aside0.mk H
                      clear H
                      have p11 : 0 ≤ (x3_2 : Int) := of_decide_eq_true (by first | (with_reducible assumption) | assumption)
                      have q11 : x3_2 < (a0.size : Int) := of_decide_eq_true (by first | (with_reducible assumption) | assumption)
                      have hx11 := bt_at a0 x3_2
                      replace p11 := eq_true p11
                      replace q11 := eq_true q11
                      go_wp2_with (first | ((with_reducible refine gate_callee (f := 54) rfl ?_); refine goesL_ (some 26) rfl rfl Tryd.func54 (by kernel_rfl) rfl #[.int .u8 (bt a0 x3_2)] rfl (by (try simp only [List.map_toArray, List.map_cons, List.map_nil]); first | done | rfl | (simp only [List.length_drop, List.length_take]; rfl)) ?_; (with_reducible refine (ashlarref03_letter.calls (bt a0 x3_2) false _ A12.out).mono ?_); rintro e w' ⟨rfl, ⟨nd, rfl⟩⟩; refine ⟨_, rfl, ?_⟩; have p14 : 0 ≤ (x3_2 : Int) := of_decide_eq_true (by first | (with_reducible assumption) | assumption); have q14 : x3_2 < (a0.size : Int) := of_decide_eq_true (by first | (with_reducible assumption) | assumption); have hx14 := bt_at a0 x3_2; replace p14 := eq_true p14; replace q14 := eq_true q14; have p16 : 0 ≤ (x3_2 : Int) := of_decide_eq_true (by first | (with_reducible assumption) | assumption); have q16 : x3_2 < (a0.size : Int) := of_decide_eq_true (by first | (with_reducible assumption) | assumption); have hx16 := bt_at a0 x3_2; replace p16 := eq_true p16; replace q16 := eq_true q16))
                      go_roundg k2
                      case measure => have := HJ1.out; have := HK2.out; omega
                      case rel => exact ⟨(wrap64 (x3_2 + 1)), (by first | rfl | (simp; done) | (simp [*]; done)), H', ⟨by have := HJ1.out; have := HK2.out; omega⟩, by repeat (first | exact Drawn0.refl _ | apply Drawn0.step)⟩
                    · rw [if_neg c17] at H
                      have c17b0 : ((bt a0 x3_2) == 95) = false := beq_eq_false_iff_ne.mpr c17
                      have c17b1 : ((bt a0 x3_2) != 95) = true := bne_iff_ne.mpr c17
                      obtain rfl := Option.some.inj H
                      have p11 : 0 ≤ (x3_2 : Int) := of_decide_eq_true (by first | (with_reducible assumption) | assumption)
                      have q11 : x3_2 < (a0.size : Int) := of_decide_eq_true (by first | (with_reducible assumption) | assumption)
                      have hx11 := bt_at a0 x3_2
                      replace p11 := eq_true p11
                      replace q11 := eq_true q11
                      go_wp2_with (first | ((with_reducible refine gate_callee (f := 54) rfl ?_); refine goesL_ (some 26) rfl rfl Tryd.func54 (by kernel_rfl) rfl #[.int .u8 (bt a0 x3_2)] rfl (by (try simp only [List.map_toArray, List.map_cons, List.map_nil]); first | done | rfl | (simp only [List.length_drop, List.length_take]; rfl)) ?_; (with_reducible refine (ashlarref03_letter.calls (bt a0 x3_2) false _ A12.out).mono ?_); rintro e w' ⟨rfl, ⟨nd, rfl⟩⟩; refine ⟨_, rfl, ?_⟩; have p14 : 0 ≤ (x3_2 : Int) := of_decide_eq_true (by first | (with_reducible assumption) | assumption); have q14 : x3_2 < (a0.size : Int) := of_decide_eq_true (by first | (with_reducible assumption) | assumption); have hx14 := bt_at a0 x3_2; replace p14 := eq_true p14; replace q14 := eq_true q14; have p16 : 0 ≤ (x3_2 : Int) := of_decide_eq_true (by first | (with_reducible assumption) | assumption); have q16 : x3_2 < (a0.size : Int) := of_decide_eq_true (by first | (with_reducible assumption) | assumption); have hx16 := bt_at a0 x3_2; replace p16 := eq_true p16; replace q16 := eq_true q16))
                      go_ret
                      exact ⟨by first | rfl | (simp; done) | (simp [*]; done), by repeat (first | exact Drawn0.refl _ | apply Drawn0.step)⟩
                  · rw [if_neg c15] at H
                    have c15b0 : decide ((bt a0 x3_2) < 48) = false := decide_eq_false c15
                    clear c15
                    by_cases c19 : (bt a0 x3_2) > 57
                    · rw [if_pos c19] at H
                      have c19b0 : decide (57 < (bt a0 x3_2)) = true := decide_eq_true c19
                      clear c19
                      by_cases c21 : (bt a0 x3_2) = 95
                      · rw [if_pos c21] at H
                        have c21b0 : ((bt a0 x3_2) == 95) = true := beq_iff_eq.mpr c21
                        have c21b1 : ((bt a0 x3_2) != 95) = false := bne_eq_false_iff_eq.mpr c21
                        clear c21
                        have H' := Aside0.mk H
                        clear H
                        have p11 : 0 ≤ (x3_2 : Int) := of_decide_eq_true (by first | (with_reducible assumption) | assumption)
                        have q11 : x3_2 < (a0.size : Int) := of_decide_eq_true (by first | (with_reducible assumption) | assumption)
                        have hx11 := bt_at a0 x3_2
                        replace p11 := eq_true p11
                        replace q11 := eq_true q11
                        go_wp2_with (first | ((with_reducible refine gate_callee (f := 54) rfl ?_); refine goesL_ (some 26) rfl rfl Tryd.func54 (by kernel_rfl) rfl #[.int .u8 (bt a0 x3_2)] rfl (by (try simp only [List.map_toArray, List.map_cons, List.map_nil]); first | done | rfl | (simp only [List.length_drop, List.length_take]; rfl)) ?_; (with_reducible refine (ashlarref03_letter.calls (bt a0 x3_2) false _ A12.out).mono ?_); rintro e w' ⟨rfl, ⟨nd, rfl⟩⟩; refine ⟨_, rfl, ?_⟩; have p14 : 0 ≤ (x3_2 : Int) := of_decide_eq_true (by first | (with_reducible assumption) | assumption); have q14 : x3_2 < (a0.size : Int) := of_decide_eq_true (by first | (with_reducible assumption) | assumption); have hx14 := bt_at a0 x3_2; replace p14 := eq_true p14; replace q14 := eq_true q14; have p18 : 0 ≤ (x3_2 : Int) := of_decide_eq_true (by first | (with_reducible assumption) | assumption); have q18 : x3_2 < (a0.size : Int) := of_decide_eq_true (by first | (with_reducible assumption) | assumption); have hx18 := bt_at a0 x3_2; replace p18 := eq_true p18; replace q18 := eq_true q18; have p20 : 0 ≤ (x3_2 : Int) := of_decide_eq_true (by first | (with_reducible assumption) | assumption); have q20 : x3_2 < (a0.size : Int) := of_decide_eq_true (by first | (with_reducible assumption) | assumption); have hx20 := bt_at a0 x3_2; replace p20 := eq_true p20; replace q20 := eq_true q20))
                        go_roundg k2
                        case measure => have := HJ1.out; have := HK2.out; omega
                        case rel => exact ⟨(wrap64 (x3_2 + 1)), (by first | rfl | (simp; done) | (simp [*]; done)), H', ⟨by have := HJ1.out; have := HK2.out; omega⟩, by repeat (first | exact Drawn0.refl _ | apply Drawn0.step)⟩
                      · rw [if_neg c21] at H
                        have c21b0 : ((bt a0 x3_2) == 95) = false := beq_eq_false_iff_ne.mpr c21
                        have c21b1 : ((bt a0 x3_2) != 95) = true := bne_iff_ne.mpr c21
                        obtain rfl := Option.some.inj H
                        have p11 : 0 ≤ (x3_2 : Int) := of_decide_eq_true (by first | (with_reducible assumption) | assumption)
                        have q11 : x3_2 < (a0.size : Int) := of_decide_eq_true (by first | (with_reducible assumption) | assumption)
                        have hx11 := bt_at a0 x3_2
                        replace p11 := eq_true p11
                        replace q11 := eq_true q11
                        go_wp2_with (first | ((with_reducible refine gate_callee (f := 54) rfl ?_); refine goesL_ (some 26) rfl rfl Tryd.func54 (by kernel_rfl) rfl #[.int .u8 (bt a0 x3_2)] rfl (by (try simp only [List.map_toArray, List.map_cons, List.map_nil]); first | done | rfl | (simp only [List.length_drop, List.length_take]; rfl)) ?_; (with_reducible refine (ashlarref03_letter.calls (bt a0 x3_2) false _ A12.out).mono ?_); rintro e w' ⟨rfl, ⟨nd, rfl⟩⟩; refine ⟨_, rfl, ?_⟩; have p14 : 0 ≤ (x3_2 : Int) := of_decide_eq_true (by first | (with_reducible assumption) | assumption); have q14 : x3_2 < (a0.size : Int) := of_decide_eq_true (by first | (with_reducible assumption) | assumption); have hx14 := bt_at a0 x3_2; replace p14 := eq_true p14; replace q14 := eq_true q14; have p18 : 0 ≤ (x3_2 : Int) := of_decide_eq_true (by first | (with_reducible assumption) | assumption); have q18 : x3_2 < (a0.size : Int) := of_decide_eq_true (by first | (with_reducible assumption) | assumption); have hx18 := bt_at a0 x3_2; replace p18 := eq_true p18; replace q18 := eq_true q18; have p20 : 0 ≤ (x3_2 : Int) := of_decide_eq_true (by first | (with_reducible assumption) | assumption); have q20 : x3_2 < (a0.size : Int) := of_decide_eq_true (by first | (with_reducible assumption) | assumption); have hx20 := bt_at a0 x3_2; replace p20 := eq_true p20; replace q20 := eq_true q20))
                        go_ret
                        exact ⟨by first | rfl | (simp; done) | (simp [*]; done), by repeat (first | exact Drawn0.refl _ | apply Drawn0.step)⟩
                    · rw [if_neg c19] at H
                      have c19b0 : decide (57 < (bt a0 x3_2)) = false := decide_eq_false c19
                      clear c19
                      have H' := Aside0.mk H
                      clear H
                      have p11 : 0 ≤ (x3_2 : Int) := of_decide_eq_true (by first | (with_reducible assumption) | assumption)
                      have q11 : x3_2 < (a0.size : Int) := of_decide_eq_true (by first | (with_reducible assumption) | assumption)
                      have hx11 := bt_at a0 x3_2
                      replace p11 := eq_true p11
                      replace q11 := eq_true q11
                      go_wp2_with (first | ((with_reducible refine gate_callee (f := 54) rfl ?_); refine goesL_ (some 26) rfl rfl Tryd.func54 (by kernel_rfl) rfl #[.int .u8 (bt a0 x3_2)] rfl (by (try simp only [List.map_toArray, List.map_cons, List.map_nil]); first | done | rfl | (simp only [List.length_drop, List.length_take]; rfl)) ?_; (with_reducible refine (ashlarref03_letter.calls (bt a0 x3_2) false _ A12.out).mono ?_); rintro e w' ⟨rfl, ⟨nd, rfl⟩⟩; refine ⟨_, rfl, ?_⟩; have p14 : 0 ≤ (x3_2 : Int) := of_decide_eq_true (by first | (with_reducible assumption) | assumption); have q14 : x3_2 < (a0.size : Int) := of_decide_eq_true (by first | (with_reducible assumption) | assumption); have hx14 := bt_at a0 x3_2; replace p14 := eq_true p14; replace q14 := eq_true q14; have p18 : 0 ≤ (x3_2 : Int) := of_decide_eq_true (by first | (with_reducible assumption) | assumption); have q18 : x3_2 < (a0.size : Int) := of_decide_eq_true (by first | (with_reducible assumption) | assumption); have hx18 := bt_at a0 x3_2; replace p18 := eq_true p18; replace q18 := eq_true q18))
                      go_roundg k2
                      case measure => have := HJ1.out; have := HK2.out; omega
                      case rel => exact ⟨(wrap64 (x3_2 + 1)), (by first | rfl | (simp; done) | (simp [*]; done)), H', ⟨by have := HJ1.out; have := HK2.out; omega⟩, by repeat (first | exact Drawn0.refl _ | apply Drawn0.step)⟩
              · rw [if_neg c10] at H
                exact absurd H (by simp)
            · rw [if_neg c9] at H
              have c9b0 : decide (x3_2 < (a0.size : Int)) = false := decide_eq_false c9
              clear c9
              obtain rfl := Option.some.inj H
              go_wp2
              go_ret
              exact ⟨by first | rfl | (simp; done) | (simp [*]; done), by repeat (first | exact Drawn0.refl _ | apply Drawn0.step)⟩

/-! ### ashlarref03_Var: function 49 -/
def ashlarref03_Var.f (a0 : Int) : Option (Bool) := if a0 = 2 then (some true) else (if a0 = 7 then (some true) else (if a0 = 14 then (some true) else (some (a0 == 15))))
set_option maxHeartbeats 8000000 in
set_option maxRecDepth 100000 in
theorem ashlarref03_Var.calls (a0 : Int) (r : Bool) (w : World) (h : ashlarref03_Var.f a0 = some r) :
    Calls Tryd.prog 49 #[.int .i64 a0] w fun e w' => e = .returned (.bool r) ∧ Drawn0 w w' := by
  have H : (if a0 = 2 then (some true) else (if a0 = 7 then (some true) else (if a0 = 14 then (some true) else (some (a0 == 15))))) = some r := h
  clear h
  by_cases c2 : a0 = 2
  · rw [if_pos c2] at H
    have c2b0 : (a0 == 2) = true := beq_iff_eq.mpr c2
    have c2b1 : (a0 != 2) = false := bne_eq_false_iff_eq.mpr c2
    clear c2
    obtain rfl := Option.some.inj H
    go_enter Tryd.func49, Tryd.ntmps49
    go_wp2
    go_ret
    exact ⟨by first | rfl | (simp; done) | (simp [*]; done), by repeat (first | exact Drawn0.refl _ | apply Drawn0.step)⟩
  · rw [if_neg c2] at H
    have c2b0 : (a0 == 2) = false := beq_eq_false_iff_ne.mpr c2
    have c2b1 : (a0 != 2) = true := bne_iff_ne.mpr c2
    by_cases c3 : a0 = 7
    · rw [if_pos c3] at H
      have c3b0 : (a0 == 7) = true := beq_iff_eq.mpr c3
      have c3b1 : (a0 != 7) = false := bne_eq_false_iff_eq.mpr c3
      clear c3
      obtain rfl := Option.some.inj H
      go_enter Tryd.func49, Tryd.ntmps49
      go_wp2
      go_ret
      exact ⟨by first | rfl | (simp; done) | (simp [*]; done), by repeat (first | exact Drawn0.refl _ | apply Drawn0.step)⟩
    · rw [if_neg c3] at H
      have c3b0 : (a0 == 7) = false := beq_eq_false_iff_ne.mpr c3
      have c3b1 : (a0 != 7) = true := bne_iff_ne.mpr c3
      by_cases c4 : a0 = 14
      · rw [if_pos c4] at H
        have c4b0 : (a0 == 14) = true := beq_iff_eq.mpr c4
        have c4b1 : (a0 != 14) = false := bne_eq_false_iff_eq.mpr c4
        clear c4
        obtain rfl := Option.some.inj H
        go_enter Tryd.func49, Tryd.ntmps49
        go_wp2
        go_ret
        exact ⟨by first | rfl | (simp; done) | (simp [*]; done), by repeat (first | exact Drawn0.refl _ | apply Drawn0.step)⟩
      · rw [if_neg c4] at H
        have c4b0 : (a0 == 14) = false := beq_eq_false_iff_ne.mpr c4
        have c4b1 : (a0 != 14) = true := bne_iff_ne.mpr c4
        obtain rfl := Option.some.inj H
        go_enter Tryd.func49, Tryd.ntmps49
        go_wp2
        go_ret
        exact ⟨by first | rfl | (simp; done) | (simp [*]; done), by repeat (first | exact Drawn0.refl _ | apply Drawn0.step)⟩

/-! ### ashlarref03_sorted: function 34 -/
mutual
def ashlarref03_sorted.j0 : Nat → Int → List Int → Bool → Int → ByteArray → Int → List (S24) → Option (Int)
  | 0, _, _, _, _, _, _, _ => none
  | k + 1, x3, x4, x52, x145000, x145001, x145002, x145003 => if x52 = true then (some 0) else (if (x4.length : Int) = 1 then (if 0 < (x4.length : Int) then (ashlarref03_sorted.j1 k x3 x4 ((rd x4 0) == (-1)) x145000 x145001 x145002 x145003) else (none)) else (ashlarref03_sorted.j1 k x3 x4 false x145000 x145001 x145002 x145003))
def ashlarref03_sorted.j1 : Nat → Int → List Int → Bool → Int → ByteArray → Int → List (S24) → Option (Int)
  | 0, _, _, _, _, _, _, _ => none
  | k + 1, x3, x4, x6, x145000, x145001, x145002, x145003 => if x6 = true then (ashlarref03_sorted.j2 k x3 x4 x6 false x145000 x145001 x145002 x145003) else (ashlarref03_sorted.j2 k x3 x4 x6 ((x145003.length : Int) != (x4.length : Int)) x145000 x145001 x145002 x145003)
def ashlarref03_sorted.j2 : Nat → Int → List Int → Bool → Bool → Int → ByteArray → Int → List (S24) → Option (Int)
  | 0, _, _, _, _, _, _, _, _ => none
  | k + 1, x3, x4, x6, x71, x145000, x145001, x145002, x145003 => if x71 = true then (some 0) else (ashlarref03_sorted.l0 k x3 x4 x6 0 x145000 x145001 x145002 x145003)
def ashlarref03_sorted.l0 : Nat → Int → List Int → Bool → Int → Int → ByteArray → Int → List (S24) → Option (Int)
  | 0, _, _, _, _, _, _, _, _ => none
  | k + 1, x3, x4, x6, x7, x145000, x145001, x145002, x145003 => if x7 < (x145003.length : Int) then (if 0 ≤ x7 then ((ashlarref03_sorted.f k ((rd_T24 x145003 x7).f0) ((rd_T24 x145003 x7).f1) ((rd_T24 x145003 x7).f2) ((rd_T24 x145003 x7).f3)).bind fun t154 => (if x6 = true then (if t154 = 4 then (ashlarref03_sorted.l0 k x3 x4 x6 (wrap64 (x7 + 1)) x145000 x145001 x145002 x145003) else (some 0)) else (if x7 < (x4.length : Int) then (if t154 = (rd x4 x7) then (ashlarref03_sorted.l0 k x3 x4 x6 (wrap64 (x7 + 1)) x145000 x145001 x145002 x145003) else (some 0)) else (none)))) else (none)) else (some x3)
def ashlarref03_sorted.f : Nat → Int → ByteArray → Int → List (S24) → Option (Int)
  | 0, _, _, _, _ => none
  | k + 1, a0_0, a0_1, a0_2, l0_3 => (ashlarref03_shape.f k a0_0).bind fun bt145 => ((ashlarref03_Name.f k a0_1).bind fun t149 => (if bt145.1 = 0 then (ashlarref03_sorted.j0 k bt145.1 bt145.2 true a0_0 a0_1 a0_2 l0_3) else ((ashlarref03_Var.f a0_0).bind fun t150 => (if (t150 != t149) = true then (ashlarref03_sorted.j0 k bt145.1 bt145.2 true a0_0 a0_1 a0_2 l0_3) else ((ashlarref03_Var.f a0_0).bind fun t151 => (if t151 = true then (if a0_2 = 0 then (ashlarref03_sorted.j0 k bt145.1 bt145.2 false a0_0 a0_1 a0_2 l0_3) else (if a0_0 = 1 then (ashlarref03_sorted.j0 k bt145.1 bt145.2 false a0_0 a0_1 a0_2 l0_3) else (ashlarref03_sorted.j0 k bt145.1 bt145.2 (a0_0 != 6) a0_0 a0_1 a0_2 l0_3))) else (if a0_1.toList = ([] : List UInt8) then (if a0_2 = 0 then (ashlarref03_sorted.j0 k bt145.1 bt145.2 false a0_0 a0_1 a0_2 l0_3) else (if a0_0 = 1 then (ashlarref03_sorted.j0 k bt145.1 bt145.2 false a0_0 a0_1 a0_2 l0_3) else (ashlarref03_sorted.j0 k bt145.1 bt145.2 (a0_0 != 6) a0_0 a0_1 a0_2 l0_3))) else (ashlarref03_sorted.j0 k bt145.1 bt145.2 true a0_0 a0_1 a0_2 l0_3))))))))
end
theorem ashlarref03_sorted.mono_l : ∀ k, (∀ y0 y1 y2 y3, LeO (ashlarref03_sorted.f k y0 y1 y2 y3) (ashlarref03_sorted.f (k + 1) y0 y1 y2 y3)) ∧ (∀ y0 y1 y2 y3 y4 y5 y6, LeO (ashlarref03_sorted.j0 k y0 y1 y2 y3 y4 y5 y6) (ashlarref03_sorted.j0 (k + 1) y0 y1 y2 y3 y4 y5 y6)) ∧ (∀ y0 y1 y2 y3 y4 y5 y6, LeO (ashlarref03_sorted.j1 k y0 y1 y2 y3 y4 y5 y6) (ashlarref03_sorted.j1 (k + 1) y0 y1 y2 y3 y4 y5 y6)) ∧ (∀ y0 y1 y2 y3 y4 y5 y6 y7, LeO (ashlarref03_sorted.j2 k y0 y1 y2 y3 y4 y5 y6 y7) (ashlarref03_sorted.j2 (k + 1) y0 y1 y2 y3 y4 y5 y6 y7)) ∧ (∀ y0 y1 y2 y3 y4 y5 y6 y7, LeO (ashlarref03_sorted.l0 k y0 y1 y2 y3 y4 y5 y6 y7) (ashlarref03_sorted.l0 (k + 1) y0 y1 y2 y3 y4 y5 y6 y7))
  | 0 => ⟨fun _ _ _ _ r h => by simp [ashlarref03_sorted.f] at h, fun _ _ _ _ _ _ _ r h => by simp [ashlarref03_sorted.j0] at h, fun _ _ _ _ _ _ _ r h => by simp [ashlarref03_sorted.j1] at h, fun _ _ _ _ _ _ _ _ r h => by simp [ashlarref03_sorted.j2] at h, fun _ _ _ _ _ _ _ _ r h => by simp [ashlarref03_sorted.l0] at h⟩
  | k + 1 => by
    obtain ⟨ih0, ih1, ih2, ih3, ih4⟩ := ashlarref03_sorted.mono_l k
    refine ⟨?_, ?_, ?_, ?_, ?_⟩
    · intro y0 y1 y2 y3
      unfold ashlarref03_sorted.f
      repeat' first
      | (with_reducible exact ih0 _ _ _ _)
      | (with_reducible exact ih1 _ _ _ _ _ _ _)
      | (with_reducible exact ih2 _ _ _ _ _ _ _)
      | (with_reducible exact ih3 _ _ _ _ _ _ _ _)
      | (with_reducible exact ih4 _ _ _ _ _ _ _ _)
      | (with_reducible exact ashlarref03_Name.mono _ _)
      | (with_reducible exact ashlarref03_shape.mono _ _)
      | (with_reducible exact LeO.refl _)
      | (with_reducible exact LeO.none _)
      | (with_reducible refine LeO.ite ?_ ?_)
      | (with_reducible refine LeO.bind ?_ (fun _ => ?_))
      | exact ih0 _ _ _ _
      | exact ih1 _ _ _ _ _ _ _
      | exact ih2 _ _ _ _ _ _ _
      | exact ih3 _ _ _ _ _ _ _ _
      | exact ih4 _ _ _ _ _ _ _ _
      | exact ashlarref03_Name.mono _ _
      | exact ashlarref03_shape.mono _ _
      | exact LeO.none _
      | refine LeO.ite ?_ ?_
      | refine LeO.bind ?_ (fun _ => ?_)
    · intro y0 y1 y2 y3 y4 y5 y6
      unfold ashlarref03_sorted.j0
      repeat' first
      | (with_reducible exact ih0 _ _ _ _)
      | (with_reducible exact ih1 _ _ _ _ _ _ _)
      | (with_reducible exact ih2 _ _ _ _ _ _ _)
      | (with_reducible exact ih3 _ _ _ _ _ _ _ _)
      | (with_reducible exact ih4 _ _ _ _ _ _ _ _)
      | (with_reducible exact ashlarref03_Name.mono _ _)
      | (with_reducible exact ashlarref03_shape.mono _ _)
      | (with_reducible exact LeO.refl _)
      | (with_reducible exact LeO.none _)
      | (with_reducible refine LeO.ite ?_ ?_)
      | (with_reducible refine LeO.bind ?_ (fun _ => ?_))
      | exact ih0 _ _ _ _
      | exact ih1 _ _ _ _ _ _ _
      | exact ih2 _ _ _ _ _ _ _
      | exact ih3 _ _ _ _ _ _ _ _
      | exact ih4 _ _ _ _ _ _ _ _
      | exact ashlarref03_Name.mono _ _
      | exact ashlarref03_shape.mono _ _
      | exact LeO.none _
      | refine LeO.ite ?_ ?_
      | refine LeO.bind ?_ (fun _ => ?_)
    · intro y0 y1 y2 y3 y4 y5 y6
      unfold ashlarref03_sorted.j1
      repeat' first
      | (with_reducible exact ih0 _ _ _ _)
      | (with_reducible exact ih1 _ _ _ _ _ _ _)
      | (with_reducible exact ih2 _ _ _ _ _ _ _)
      | (with_reducible exact ih3 _ _ _ _ _ _ _ _)
      | (with_reducible exact ih4 _ _ _ _ _ _ _ _)
      | (with_reducible exact ashlarref03_Name.mono _ _)
      | (with_reducible exact ashlarref03_shape.mono _ _)
      | (with_reducible exact LeO.refl _)
      | (with_reducible exact LeO.none _)
      | (with_reducible refine LeO.ite ?_ ?_)
      | (with_reducible refine LeO.bind ?_ (fun _ => ?_))
      | exact ih0 _ _ _ _
      | exact ih1 _ _ _ _ _ _ _
      | exact ih2 _ _ _ _ _ _ _
      | exact ih3 _ _ _ _ _ _ _ _
      | exact ih4 _ _ _ _ _ _ _ _
      | exact ashlarref03_Name.mono _ _
      | exact ashlarref03_shape.mono _ _
      | exact LeO.none _
      | refine LeO.ite ?_ ?_
      | refine LeO.bind ?_ (fun _ => ?_)
    · intro y0 y1 y2 y3 y4 y5 y6 y7
      unfold ashlarref03_sorted.j2
      repeat' first
      | (with_reducible exact ih0 _ _ _ _)
      | (with_reducible exact ih1 _ _ _ _ _ _ _)
      | (with_reducible exact ih2 _ _ _ _ _ _ _)
      | (with_reducible exact ih3 _ _ _ _ _ _ _ _)
      | (with_reducible exact ih4 _ _ _ _ _ _ _ _)
      | (with_reducible exact ashlarref03_Name.mono _ _)
      | (with_reducible exact ashlarref03_shape.mono _ _)
      | (with_reducible exact LeO.refl _)
      | (with_reducible exact LeO.none _)
      | (with_reducible refine LeO.ite ?_ ?_)
      | (with_reducible refine LeO.bind ?_ (fun _ => ?_))
      | exact ih0 _ _ _ _
      | exact ih1 _ _ _ _ _ _ _
      | exact ih2 _ _ _ _ _ _ _
      | exact ih3 _ _ _ _ _ _ _ _
      | exact ih4 _ _ _ _ _ _ _ _
      | exact ashlarref03_Name.mono _ _
      | exact ashlarref03_shape.mono _ _
      | exact LeO.none _
      | refine LeO.ite ?_ ?_
      | refine LeO.bind ?_ (fun _ => ?_)
    · intro y0 y1 y2 y3 y4 y5 y6 y7
      unfold ashlarref03_sorted.l0
      repeat' first
      | (with_reducible exact ih0 _ _ _ _)
      | (with_reducible exact ih1 _ _ _ _ _ _ _)
      | (with_reducible exact ih2 _ _ _ _ _ _ _)
      | (with_reducible exact ih3 _ _ _ _ _ _ _ _)
      | (with_reducible exact ih4 _ _ _ _ _ _ _ _)
      | (with_reducible exact ashlarref03_Name.mono _ _)
      | (with_reducible exact ashlarref03_shape.mono _ _)
      | (with_reducible exact LeO.refl _)
      | (with_reducible exact LeO.none _)
      | (with_reducible refine LeO.ite ?_ ?_)
      | (with_reducible refine LeO.bind ?_ (fun _ => ?_))
      | exact ih0 _ _ _ _
      | exact ih1 _ _ _ _ _ _ _
      | exact ih2 _ _ _ _ _ _ _
      | exact ih3 _ _ _ _ _ _ _ _
      | exact ih4 _ _ _ _ _ _ _ _
      | exact ashlarref03_Name.mono _ _
      | exact ashlarref03_shape.mono _ _
      | exact LeO.none _
      | refine LeO.ite ?_ ?_
      | refine LeO.bind ?_ (fun _ => ?_)
theorem ashlarref03_sorted.mono : ∀ a0 a1 a2 a3 k, LeO (ashlarref03_sorted.f k a0 a1 a2 a3) (ashlarref03_sorted.f (k + 1) a0 a1 a2 a3) := by
  intro a0 a1 a2 a3 k
  obtain ⟨ih0, ih1, ih2, ih3, ih4⟩ := ashlarref03_sorted.mono_l k
  exact ih0 a0 a1 a2 a3
set_option maxHeartbeats 8000000 in
set_option maxRecDepth 100000 in
theorem ashlarref03_sorted.calls (k : Nat) : ∀ (a0_0 : Int) (a0_1 : ByteArray) (a0_2 : Int) (A0_3 : Option Addr) (c0_3 : Nat) (l0_3 : List (S24)) (r : Int) (w : World) (hr0_3 : Kd.C k24 w A0_3 l0_3.length l0_3) (hc0_3 : l0_3.length ≤ c0_3) (h : ashlarref03_sorted.f k a0_0 a0_1 a0_2 l0_3 = some r),
    Calls Tryd.prog 34 #[.agg #[.int .i64 a0_0, .string a0_1, .int .i64 a0_2, .slice A0_3 l0_3.length c0_3]] w fun e w' => e = .returned (.int .i64 r) ∧ Below w.heap.size w w' := by
  induction k using Nat.strongRecOn with
  | _ k ih =>
  intro a0_0 a0_1 a0_2 A0_3 c0_3 l0_3 r w hr0_3 hc0_3 h
  cases k with
  | zero => exact absurd h (by simp [ashlarref03_sorted.f])
  | succ k =>
  simp only [ashlarref03_sorted.f] at h
  have hu24 := Tryd.underlying24
  have HR0_3 := Aside0.mk hr0_3
  have HC0_3 := Aside0.mk hc0_3
  clear hr0_3 hc0_3
  have HB := Aside0.mk (Below.refl w.heap.size w)
  have H : ((ashlarref03_shape.f k a0_0).bind fun bt145 => ((ashlarref03_Name.f k a0_1).bind fun t149 => (if bt145.1 = 0 then (ashlarref03_sorted.j0 k bt145.1 bt145.2 true a0_0 a0_1 a0_2 l0_3) else ((ashlarref03_Var.f a0_0).bind fun t150 => (if (t150 != t149) = true then (ashlarref03_sorted.j0 k bt145.1 bt145.2 true a0_0 a0_1 a0_2 l0_3) else ((ashlarref03_Var.f a0_0).bind fun t151 => (if t151 = true then (if a0_2 = 0 then (ashlarref03_sorted.j0 k bt145.1 bt145.2 false a0_0 a0_1 a0_2 l0_3) else (if a0_0 = 1 then (ashlarref03_sorted.j0 k bt145.1 bt145.2 false a0_0 a0_1 a0_2 l0_3) else (ashlarref03_sorted.j0 k bt145.1 bt145.2 (a0_0 != 6) a0_0 a0_1 a0_2 l0_3))) else (if a0_1.toList = ([] : List UInt8) then (if a0_2 = 0 then (ashlarref03_sorted.j0 k bt145.1 bt145.2 false a0_0 a0_1 a0_2 l0_3) else (if a0_0 = 1 then (ashlarref03_sorted.j0 k bt145.1 bt145.2 false a0_0 a0_1 a0_2 l0_3) else (ashlarref03_sorted.j0 k bt145.1 bt145.2 (a0_0 != 6) a0_0 a0_1 a0_2 l0_3))) else (ashlarref03_sorted.j0 k bt145.1 bt145.2 true a0_0 a0_1 a0_2 l0_3))))))))) = some r := h
  clear h
  replace H := Option.bind_eq_some_iff.mp H
  obtain ⟨⟨t145, t146⟩, A20, H⟩ := H
  replace H : ((ashlarref03_Name.f k a0_1).bind fun t149 => (if t145 = 0 then (ashlarref03_sorted.j0 k t145 t146 true a0_0 a0_1 a0_2 l0_3) else ((ashlarref03_Var.f a0_0).bind fun t150 => (if (t150 != t149) = true then (ashlarref03_sorted.j0 k t145 t146 true a0_0 a0_1 a0_2 l0_3) else ((ashlarref03_Var.f a0_0).bind fun t151 => (if t151 = true then (if a0_2 = 0 then (ashlarref03_sorted.j0 k t145 t146 false a0_0 a0_1 a0_2 l0_3) else (if a0_0 = 1 then (ashlarref03_sorted.j0 k t145 t146 false a0_0 a0_1 a0_2 l0_3) else (ashlarref03_sorted.j0 k t145 t146 (a0_0 != 6) a0_0 a0_1 a0_2 l0_3))) else (if a0_1.toList = ([] : List UInt8) then (if a0_2 = 0 then (ashlarref03_sorted.j0 k t145 t146 false a0_0 a0_1 a0_2 l0_3) else (if a0_0 = 1 then (ashlarref03_sorted.j0 k t145 t146 false a0_0 a0_1 a0_2 l0_3) else (ashlarref03_sorted.j0 k t145 t146 (a0_0 != 6) a0_0 a0_1 a0_2 l0_3))) else (ashlarref03_sorted.j0 k t145 t146 true a0_0 a0_1 a0_2 l0_3)))))))) = some r := H
  have A2 := Aside0.mk A20
  clear A20
  replace H := Option.bind_eq_some_iff.mp H
  obtain ⟨t149, A30, H⟩ := H
  replace H : (if t145 = 0 then (ashlarref03_sorted.j0 k t145 t146 true a0_0 a0_1 a0_2 l0_3) else ((ashlarref03_Var.f a0_0).bind fun t150 => (if (t150 != t149) = true then (ashlarref03_sorted.j0 k t145 t146 true a0_0 a0_1 a0_2 l0_3) else ((ashlarref03_Var.f a0_0).bind fun t151 => (if t151 = true then (if a0_2 = 0 then (ashlarref03_sorted.j0 k t145 t146 false a0_0 a0_1 a0_2 l0_3) else (if a0_0 = 1 then (ashlarref03_sorted.j0 k t145 t146 false a0_0 a0_1 a0_2 l0_3) else (ashlarref03_sorted.j0 k t145 t146 (a0_0 != 6) a0_0 a0_1 a0_2 l0_3))) else (if a0_1.toList = ([] : List UInt8) then (if a0_2 = 0 then (ashlarref03_sorted.j0 k t145 t146 false a0_0 a0_1 a0_2 l0_3) else (if a0_0 = 1 then (ashlarref03_sorted.j0 k t145 t146 false a0_0 a0_1 a0_2 l0_3) else (ashlarref03_sorted.j0 k t145 t146 (a0_0 != 6) a0_0 a0_1 a0_2 l0_3))) else (ashlarref03_sorted.j0 k t145 t146 true a0_0 a0_1 a0_2 l0_3))))))) = some r := H
  have A3 := Aside0.mk A30
  clear A30
  have HC4 := Aside0.mk H
  clear H
  go_enter Tryd.func34, Tryd.ntmps34
  go_upto_region 3 with (first | ((with_reducible refine gate_dst (N := 1) rfl ?_); (try (refine gate_guard (by rfl) ?_; dsimp only)); refine box_event ?hg (N := 1) ?hd (cs := #[.int .i64 a0_0, .string a0_1, .int .i64 a0_2, .slice A0_3 l0_3.length c0_3]) (t := 24) ?hr ?_; (case hd => rfl); (case hg => rfl); (case hr => first | (go_simp; done) | (go_simp; rfl)); intro gb144 hg w5 hbox hb; have n0_ := Aside0.mk (below_step (by repeat (first | (with_reducible first | exact HB.out | apply below_alloc | apply pw_below_drewN | apply below_drew1) | exact HB.out)) hb); have n1_ := Aside0.mk (hbox); have n2_ := Aside0.mk ((by rw [hg]; exact (below_size (by repeat (first | (with_reducible first | exact HB.out | apply below_alloc | apply pw_below_drewN | apply below_drew1) | exact HB.out))) : w.heap.size ≤ gb144)); have n3_ := Aside0.mk ((by rw [hg]; exact (below_size (by repeat (first | (with_reducible first | exact HB.out | apply below_alloc | apply pw_below_drewN | apply below_drew1) | exact HB.out))) : w.heap.size ≤ gb144)); clear HB; have HB := n0_; have BK144 := n1_; have GW144 := n2_; have GE144 := n3_; clear n0_ n1_ n2_ n3_; clear hb hbox hg; have hcz6_0 : w5.cell? ⟨gb144, 0, none⟩ = some (.int .i64 a0_0) := (blk_cell BK144.out 0).trans rfl; have hcz6_1 : w5.cell? ⟨gb144, 1, none⟩ = some (.string a0_1) := (blk_cell BK144.out 1).trans rfl; have hcz6_2 : w5.cell? ⟨gb144, 2, none⟩ = some (.int .i64 a0_2) := (blk_cell BK144.out 2).trans rfl; have hcz6_3 : w5.cell? ⟨gb144, 3, none⟩ = some (.slice A0_3 l0_3.length c0_3) := (blk_cell BK144.out 3).trans rfl; have hfz6_0 := blk_frozen BK144.out 0; have hfz6_1 := blk_frozen BK144.out 1; have hfz6_2 := blk_frozen BK144.out 2; have hfz6_3 := blk_frozen BK144.out 3) | ((with_reducible refine gate_callee (f := 47) rfl ?_); refine goesL_ (some 12) rfl rfl Tryd.func47 (by kernel_rfl) rfl #[.int .i64 a0_0] rfl (by (try simp only [List.map_toArray, List.map_cons, List.map_nil]); first | done | rfl | (simp only [List.length_drop, List.length_take]; rfl)) ?_; (with_reducible refine (ashlarref03_shape.calls k a0_0 t145 t146 _ A2.out).mono ?_); rintro e w7 ⟨v147, rfl, ho0, hb⟩; refine ⟨_, rfl, ?_⟩; have n0_ := Aside0.mk (Kd.R_lower ho0 (below_size (by repeat (first | (with_reducible first | exact HB.out | apply below_alloc | apply pw_below_drewN | apply below_drew1 | refine below_set ?_ GE144.out) | exact HB.out)))); have n1_ := Aside0.mk (blk_below (g := gb144) (o := .cells #[.int .i64 a0_0, .string a0_1, .int .i64 a0_2, .slice A0_3 l0_3.length c0_3] 24 (0, 0)) (by (with_reducible repeat (first | refine blk_drewN ?_ _ | refine blk_drew ?_ | refine blk_alloc ?_ _)); exact BK144.out) hb); have n2_ := Aside0.mk (below_step (by repeat (first | (with_reducible first | exact HB.out | apply below_alloc | apply pw_below_drewN | apply below_drew1 | refine below_set ?_ GE144.out) | exact HB.out)) hb); clear BK144; clear HB; have HO148 := n0_; have BK144 := n1_; have HB := n2_; clear n0_ n1_ n2_; (try clear hb); (try clear hb2); (try clear hk); (try clear hi); (try clear ho0); have hcz8_0 : w7.cell? ⟨gb144, 0, none⟩ = some (.int .i64 a0_0) := (blk_cell BK144.out 0).trans rfl; have hcz8_1 : w7.cell? ⟨gb144, 1, none⟩ = some (.string a0_1) := (blk_cell BK144.out 1).trans rfl; have hcz8_2 : w7.cell? ⟨gb144, 2, none⟩ = some (.int .i64 a0_2) := (blk_cell BK144.out 2).trans rfl; have hcz8_3 : w7.cell? ⟨gb144, 3, none⟩ = some (.slice A0_3 l0_3.length c0_3) := (blk_cell BK144.out 3).trans rfl; have hfz8_0 := blk_frozen BK144.out 0; have hfz8_1 := blk_frozen BK144.out 1; have hfz8_2 := blk_frozen BK144.out 2; have hfz8_3 := blk_frozen BK144.out 3) | ((with_reducible refine gate_callee (f := 48) rfl ?_); refine goesL_ (some 17) rfl rfl Tryd.func48 (by kernel_rfl) rfl #[.string a0_1] rfl (by (try simp only [List.map_toArray, List.map_cons, List.map_nil]); first | done | rfl | (simp only [List.length_drop, List.length_take]; rfl)) ?_; (with_reducible refine (ashlarref03_Name.calls k a0_1 t149 _ A3.out).mono ?_); rintro e w' ⟨rfl, ⟨nd, rfl⟩⟩; refine ⟨_, rfl, ?_⟩))
  (try simp only [Act.put, List.setIfInBounds_toArray, List.set_cons_zero, List.set_cons_succ])
  go_cut [52] (fun v52 wc => ∃ (kq : Nat) (x52_3 : Bool), v52 = .bool x52_3 ∧ Aside0 (ashlarref03_sorted.j0 kq t145 t146 x52_3 a0_0 a0_1 a0_2 l0_3 = some r) ∧ Aside0 (kq ≤ k) ∧ Aside0 (Kd.R (Kd.int .i64) 3 wc w.heap.size (fun _ => True) v147 t146) ∧ Aside0 (wc.heap[gb144]? = some (.cells #[.int .i64 a0_0, .string a0_1, .int .i64 a0_2, (.slice A0_3 l0_3.length c0_3)] 24 (0, 0))) ∧ Aside0 (Below w.heap.size w wc))
  case first =>
    have H := HC4.out
    clear HC4
    by_cases c9 : t145 = 0
    · rw [if_pos c9] at H
      have c9b0 : (t145 == 0) = true := beq_iff_eq.mpr c9
      have c9b1 : (t145 != 0) = false := bne_eq_false_iff_eq.mpr c9
      clear c9
      (first | rw [c9b0] | (simp only [i64_w, i32_w]; rw [c9b0]) | skip)
      have H' := Aside0.mk H
      clear H
      go_wp2
      go_meet
      case rel => exact ⟨_, (true), (by first | rfl | (simp; done) | (simp [*]; done)), H', ⟨by first | omega | exact Nat.le_refl _⟩, ⟨by (with_reducible repeat (first | apply Kd.R_alloc | apply Kd.R_drewN | apply Kd.R_drew)); exact HO148.out⟩, ⟨by (with_reducible repeat (first | refine blk_drewN ?_ _ | refine blk_drew ?_ | refine blk_alloc ?_ _)); exact BK144.out⟩, ⟨by repeat (first | (with_reducible first | exact HB.out | apply below_alloc | apply pw_below_drewN | apply below_drew1 | refine below_set ?_ GE144.out) | exact HB.out)⟩⟩
    · rw [if_neg c9] at H
      have c9b0 : (t145 == 0) = false := beq_eq_false_iff_ne.mpr c9
      have c9b1 : (t145 != 0) = true := bne_iff_ne.mpr c9
      (first | rw [c9b0] | (simp only [i64_w, i32_w]; rw [c9b0]) | skip)
      replace H := Option.bind_eq_some_iff.mp H
      obtain ⟨t150, A100, H⟩ := H
      replace H : (if (t150 != t149) = true then (ashlarref03_sorted.j0 k t145 t146 true a0_0 a0_1 a0_2 l0_3) else ((ashlarref03_Var.f a0_0).bind fun t151 => (if t151 = true then (if a0_2 = 0 then (ashlarref03_sorted.j0 k t145 t146 false a0_0 a0_1 a0_2 l0_3) else (if a0_0 = 1 then (ashlarref03_sorted.j0 k t145 t146 false a0_0 a0_1 a0_2 l0_3) else (ashlarref03_sorted.j0 k t145 t146 (a0_0 != 6) a0_0 a0_1 a0_2 l0_3))) else (if a0_1.toList = ([] : List UInt8) then (if a0_2 = 0 then (ashlarref03_sorted.j0 k t145 t146 false a0_0 a0_1 a0_2 l0_3) else (if a0_0 = 1 then (ashlarref03_sorted.j0 k t145 t146 false a0_0 a0_1 a0_2 l0_3) else (ashlarref03_sorted.j0 k t145 t146 (a0_0 != 6) a0_0 a0_1 a0_2 l0_3))) else (ashlarref03_sorted.j0 k t145 t146 true a0_0 a0_1 a0_2 l0_3))))) = some r := H
      have A10 := Aside0.mk A100
      clear A100
      by_cases c11 : (t150 != t149) = true
      · rw [if_pos c11] at H
        have c11b0 : (t150 != t149) = true := c11
        (try (have c11b1 : decide (t150 = t149) = false := by simpa using c11))
        (try (have c11b2 : (t150 == t149) = false := by simpa using c11))
        (try (have c11b3 : ¬ (t150 = t149) := by simpa using c11))
        clear c11
        have H' := Aside0.mk H
        clear H
        have hcz12_0 : w7.cell? ⟨gb144, 0, none⟩ = some (.int .i64 a0_0) := (blk_cell BK144.out 0).trans rfl
        have hcz12_1 : w7.cell? ⟨gb144, 1, none⟩ = some (.string a0_1) := (blk_cell BK144.out 1).trans rfl
        have hcz12_2 : w7.cell? ⟨gb144, 2, none⟩ = some (.int .i64 a0_2) := (blk_cell BK144.out 2).trans rfl
        have hcz12_3 : w7.cell? ⟨gb144, 3, none⟩ = some (.slice A0_3 l0_3.length c0_3) := (blk_cell BK144.out 3).trans rfl
        have hfz12_0 := blk_frozen BK144.out 0
        have hfz12_1 := blk_frozen BK144.out 1
        have hfz12_2 := blk_frozen BK144.out 2
        have hfz12_3 := blk_frozen BK144.out 3
        go_wp2_with (first | (go_at_call 49; (with_reducible refine (ashlarref03_Var.calls a0_0 t150 _ A10.out).mono ?_); rintro e w' ⟨rfl, ⟨nd, rfl⟩⟩))
        go_meet
        case rel => exact ⟨_, (true), (by first | rfl | (simp; done) | (simp [*]; done)), H', ⟨by first | omega | exact Nat.le_refl _⟩, ⟨by (with_reducible repeat (first | apply Kd.R_alloc | apply Kd.R_drewN | apply Kd.R_drew)); exact HO148.out⟩, ⟨by (with_reducible repeat (first | refine blk_drewN ?_ _ | refine blk_drew ?_ | refine blk_alloc ?_ _)); exact BK144.out⟩, ⟨by repeat (first | (with_reducible first | exact HB.out | apply below_alloc | apply pw_below_drewN | apply below_drew1 | refine below_set ?_ GE144.out) | exact HB.out)⟩⟩
      · rw [if_neg c11] at H
        have c11b0 : (t150 != t149) = false := by simpa using c11
        (try (have c11b1 : decide (t150 = t149) = true := by simpa using c11))
        (try (have c11b2 : (t150 == t149) = true := by simpa using c11))
        clear c11
        replace H := Option.bind_eq_some_iff.mp H
        obtain ⟨t151, A130, H⟩ := H
        replace H : (if t151 = true then (if a0_2 = 0 then (ashlarref03_sorted.j0 k t145 t146 false a0_0 a0_1 a0_2 l0_3) else (if a0_0 = 1 then (ashlarref03_sorted.j0 k t145 t146 false a0_0 a0_1 a0_2 l0_3) else (ashlarref03_sorted.j0 k t145 t146 (a0_0 != 6) a0_0 a0_1 a0_2 l0_3))) else (if a0_1.toList = ([] : List UInt8) then (if a0_2 = 0 then (ashlarref03_sorted.j0 k t145 t146 false a0_0 a0_1 a0_2 l0_3) else (if a0_0 = 1 then (ashlarref03_sorted.j0 k t145 t146 false a0_0 a0_1 a0_2 l0_3) else (ashlarref03_sorted.j0 k t145 t146 (a0_0 != 6) a0_0 a0_1 a0_2 l0_3))) else (ashlarref03_sorted.j0 k t145 t146 true a0_0 a0_1 a0_2 l0_3))) = some r := H
        have A13 := Aside0.mk A130
        clear A130
        by_cases c14 : t151 = true
        · subst c14
          have e150 : t150 = true := Option.some.inj (A10.out.symm.trans A13.out)
          subst e150
          have H1 : (if a0_2 = 0 then (ashlarref03_sorted.j0 k t145 t146 false a0_0 a0_1 a0_2 l0_3) else (if a0_0 = 1 then (ashlarref03_sorted.j0 k t145 t146 false a0_0 a0_1 a0_2 l0_3) else (ashlarref03_sorted.j0 k t145 t146 (a0_0 != 6) a0_0 a0_1 a0_2 l0_3))) = some r := by rw [if_pos rfl] at H; exact H
          clear H
          have H := H1
          clear H1
          by_cases c15 : a0_2 = 0
          · rw [if_pos c15] at H
            have c15b0 : (a0_2 == 0) = true := beq_iff_eq.mpr c15
            have c15b1 : (a0_2 != 0) = false := bne_eq_false_iff_eq.mpr c15
            clear c15
            have H' := Aside0.mk H
            clear H
            have hcz16_0 : w7.cell? ⟨gb144, 0, none⟩ = some (.int .i64 a0_0) := (blk_cell BK144.out 0).trans rfl
            have hcz16_1 : w7.cell? ⟨gb144, 1, none⟩ = some (.string a0_1) := (blk_cell BK144.out 1).trans rfl
            have hcz16_2 : w7.cell? ⟨gb144, 2, none⟩ = some (.int .i64 a0_2) := (blk_cell BK144.out 2).trans rfl
            have hcz16_3 : w7.cell? ⟨gb144, 3, none⟩ = some (.slice A0_3 l0_3.length c0_3) := (blk_cell BK144.out 3).trans rfl
            have hfz16_0 := blk_frozen BK144.out 0
            have hfz16_1 := blk_frozen BK144.out 1
            have hfz16_2 := blk_frozen BK144.out 2
            have hfz16_3 := blk_frozen BK144.out 3
            go_wp2_with (first | (go_at_call 49; (with_reducible refine (ashlarref03_Var.calls a0_0 t150 _ A10.out).mono ?_); rintro e w' ⟨rfl, ⟨nd, rfl⟩⟩) | (go_at_call 49; (with_reducible refine (ashlarref03_Var.calls a0_0 true _ A13.out).mono ?_); rintro e w' ⟨rfl, ⟨nd, rfl⟩⟩))
            go_meet
            case rel => exact ⟨_, (false), (by first | rfl | (simp; done) | (simp [*]; done)), H', ⟨by first | omega | exact Nat.le_refl _⟩, ⟨by (with_reducible repeat (first | apply Kd.R_alloc | apply Kd.R_drewN | apply Kd.R_drew)); exact HO148.out⟩, ⟨by (with_reducible repeat (first | refine blk_drewN ?_ _ | refine blk_drew ?_ | refine blk_alloc ?_ _)); exact BK144.out⟩, ⟨by repeat (first | (with_reducible first | exact HB.out | apply below_alloc | apply pw_below_drewN | apply below_drew1 | refine below_set ?_ GE144.out) | exact HB.out)⟩⟩
          · rw [if_neg c15] at H
            have c15b0 : (a0_2 == 0) = false := beq_eq_false_iff_ne.mpr c15
            have c15b1 : (a0_2 != 0) = true := bne_iff_ne.mpr c15
            by_cases c17 : a0_0 = 1
            · rw [if_pos c17] at H
              have c17b0 : (a0_0 == 1) = true := beq_iff_eq.mpr c17
              have c17b1 : (a0_0 != 1) = false := bne_eq_false_iff_eq.mpr c17
              clear c17
              have H' := Aside0.mk H
              clear H
              have hcz18_0 : w7.cell? ⟨gb144, 0, none⟩ = some (.int .i64 a0_0) := (blk_cell BK144.out 0).trans rfl
              have hcz18_1 : w7.cell? ⟨gb144, 1, none⟩ = some (.string a0_1) := (blk_cell BK144.out 1).trans rfl
              have hcz18_2 : w7.cell? ⟨gb144, 2, none⟩ = some (.int .i64 a0_2) := (blk_cell BK144.out 2).trans rfl
              have hcz18_3 : w7.cell? ⟨gb144, 3, none⟩ = some (.slice A0_3 l0_3.length c0_3) := (blk_cell BK144.out 3).trans rfl
              have hfz18_0 := blk_frozen BK144.out 0
              have hfz18_1 := blk_frozen BK144.out 1
              have hfz18_2 := blk_frozen BK144.out 2
              have hfz18_3 := blk_frozen BK144.out 3
              go_wp2_with (first | (go_at_call 49; (with_reducible refine (ashlarref03_Var.calls a0_0 t150 _ A10.out).mono ?_); rintro e w' ⟨rfl, ⟨nd, rfl⟩⟩) | (go_at_call 49; (with_reducible refine (ashlarref03_Var.calls a0_0 true _ A13.out).mono ?_); rintro e w' ⟨rfl, ⟨nd, rfl⟩⟩))
              go_meet
              case rel => exact ⟨_, (false), (by first | rfl | (simp; done) | (simp [*]; done)), H', ⟨by first | omega | exact Nat.le_refl _⟩, ⟨by (with_reducible repeat (first | apply Kd.R_alloc | apply Kd.R_drewN | apply Kd.R_drew)); exact HO148.out⟩, ⟨by (with_reducible repeat (first | refine blk_drewN ?_ _ | refine blk_drew ?_ | refine blk_alloc ?_ _)); exact BK144.out⟩, ⟨by repeat (first | (with_reducible first | exact HB.out | apply below_alloc | apply pw_below_drewN | apply below_drew1 | refine below_set ?_ GE144.out) | exact HB.out)⟩⟩
            · rw [if_neg c17] at H
              have c17b0 : (a0_0 == 1) = false := beq_eq_false_iff_ne.mpr c17
              have c17b1 : (a0_0 != 1) = true := bne_iff_ne.mpr c17
              have H' := Aside0.mk H
              clear H
              have hcz19_0 : w7.cell? ⟨gb144, 0, none⟩ = some (.int .i64 a0_0) := (blk_cell BK144.out 0).trans rfl
              have hcz19_1 : w7.cell? ⟨gb144, 1, none⟩ = some (.string a0_1) := (blk_cell BK144.out 1).trans rfl
              have hcz19_2 : w7.cell? ⟨gb144, 2, none⟩ = some (.int .i64 a0_2) := (blk_cell BK144.out 2).trans rfl
              have hcz19_3 : w7.cell? ⟨gb144, 3, none⟩ = some (.slice A0_3 l0_3.length c0_3) := (blk_cell BK144.out 3).trans rfl
              have hfz19_0 := blk_frozen BK144.out 0
              have hfz19_1 := blk_frozen BK144.out 1
              have hfz19_2 := blk_frozen BK144.out 2
              have hfz19_3 := blk_frozen BK144.out 3
              go_wp2_with (first | (go_at_call 49; (with_reducible refine (ashlarref03_Var.calls a0_0 t150 _ A10.out).mono ?_); rintro e w' ⟨rfl, ⟨nd, rfl⟩⟩) | (go_at_call 49; (with_reducible refine (ashlarref03_Var.calls a0_0 true _ A13.out).mono ?_); rintro e w' ⟨rfl, ⟨nd, rfl⟩⟩))
              go_meet
              case rel => exact ⟨_, ((a0_0 != 6)), (by first | rfl | (simp; done) | (simp [*]; done)), H', ⟨by first | omega | exact Nat.le_refl _⟩, ⟨by (with_reducible repeat (first | apply Kd.R_alloc | apply Kd.R_drewN | apply Kd.R_drew)); exact HO148.out⟩, ⟨by (with_reducible repeat (first | refine blk_drewN ?_ _ | refine blk_drew ?_ | refine blk_alloc ?_ _)); exact BK144.out⟩, ⟨by repeat (first | (with_reducible first | exact HB.out | apply below_alloc | apply pw_below_drewN | apply below_drew1 | refine below_set ?_ GE144.out) | exact HB.out)⟩⟩
        · replace c14 := Bool.eq_false_iff.mpr c14
          subst c14
          have e150 : t150 = false := Option.some.inj (A10.out.symm.trans A13.out)
          subst e150
          have H1 : (if a0_1.toList = ([] : List UInt8) then (if a0_2 = 0 then (ashlarref03_sorted.j0 k t145 t146 false a0_0 a0_1 a0_2 l0_3) else (if a0_0 = 1 then (ashlarref03_sorted.j0 k t145 t146 false a0_0 a0_1 a0_2 l0_3) else (ashlarref03_sorted.j0 k t145 t146 (a0_0 != 6) a0_0 a0_1 a0_2 l0_3))) else (ashlarref03_sorted.j0 k t145 t146 true a0_0 a0_1 a0_2 l0_3)) = some r := by rw [if_neg (show ¬ (false = true) by decide)] at H; exact H
          clear H
          have H := H1
          clear H1
          by_cases c20 : a0_1.toList = ([] : List UInt8)
          · rw [if_pos c20] at H
            have c20b0 : (a0_1.toList == ([] : List UInt8)) = true := beq_iff_eq.mpr c20
            have c20b1 : (a0_1.toList != ([] : List UInt8)) = false := bne_eq_false_iff_eq.mpr c20
            clear c20
            by_cases c21 : a0_2 = 0
            · rw [if_pos c21] at H
              have c21b0 : (a0_2 == 0) = true := beq_iff_eq.mpr c21
              have c21b1 : (a0_2 != 0) = false := bne_eq_false_iff_eq.mpr c21
              clear c21
              have H' := Aside0.mk H
              clear H
              have hcz22_0 : w7.cell? ⟨gb144, 0, none⟩ = some (.int .i64 a0_0) := (blk_cell BK144.out 0).trans rfl
              have hcz22_1 : w7.cell? ⟨gb144, 1, none⟩ = some (.string a0_1) := (blk_cell BK144.out 1).trans rfl
              have hcz22_2 : w7.cell? ⟨gb144, 2, none⟩ = some (.int .i64 a0_2) := (blk_cell BK144.out 2).trans rfl
              have hcz22_3 : w7.cell? ⟨gb144, 3, none⟩ = some (.slice A0_3 l0_3.length c0_3) := (blk_cell BK144.out 3).trans rfl
              have hfz22_0 := blk_frozen BK144.out 0
              have hfz22_1 := blk_frozen BK144.out 1
              have hfz22_2 := blk_frozen BK144.out 2
              have hfz22_3 := blk_frozen BK144.out 3
              go_wp2_with (first | (go_at_call 49; (with_reducible refine (ashlarref03_Var.calls a0_0 t150 _ A10.out).mono ?_); rintro e w' ⟨rfl, ⟨nd, rfl⟩⟩) | (go_at_call 49; (with_reducible refine (ashlarref03_Var.calls a0_0 false _ A13.out).mono ?_); rintro e w' ⟨rfl, ⟨nd, rfl⟩⟩))
              go_meet
              case rel => exact ⟨_, (false), (by first | rfl | (simp; done) | (simp [*]; done)), H', ⟨by first | omega | exact Nat.le_refl _⟩, ⟨by (with_reducible repeat (first | apply Kd.R_alloc | apply Kd.R_drewN | apply Kd.R_drew)); exact HO148.out⟩, ⟨by (with_reducible repeat (first | refine blk_drewN ?_ _ | refine blk_drew ?_ | refine blk_alloc ?_ _)); exact BK144.out⟩, ⟨by repeat (first | (with_reducible first | exact HB.out | apply below_alloc | apply pw_below_drewN | apply below_drew1 | refine below_set ?_ GE144.out) | exact HB.out)⟩⟩
            · rw [if_neg c21] at H
              have c21b0 : (a0_2 == 0) = false := beq_eq_false_iff_ne.mpr c21
              have c21b1 : (a0_2 != 0) = true := bne_iff_ne.mpr c21
              by_cases c23 : a0_0 = 1
              · rw [if_pos c23] at H
                have c23b0 : (a0_0 == 1) = true := beq_iff_eq.mpr c23
                have c23b1 : (a0_0 != 1) = false := bne_eq_false_iff_eq.mpr c23
                clear c23
                have H' := Aside0.mk H
                clear H
                have hcz24_0 : w7.cell? ⟨gb144, 0, none⟩ = some (.int .i64 a0_0) := (blk_cell BK144.out 0).trans rfl
                have hcz24_1 : w7.cell? ⟨gb144, 1, none⟩ = some (.string a0_1) := (blk_cell BK144.out 1).trans rfl
                have hcz24_2 : w7.cell? ⟨gb144, 2, none⟩ = some (.int .i64 a0_2) := (blk_cell BK144.out 2).trans rfl
                have hcz24_3 : w7.cell? ⟨gb144, 3, none⟩ = some (.slice A0_3 l0_3.length c0_3) := (blk_cell BK144.out 3).trans rfl
                have hfz24_0 := blk_frozen BK144.out 0
                have hfz24_1 := blk_frozen BK144.out 1
                have hfz24_2 := blk_frozen BK144.out 2
                have hfz24_3 := blk_frozen BK144.out 3
                go_wp2_with (first | (go_at_call 49; (with_reducible refine (ashlarref03_Var.calls a0_0 t150 _ A10.out).mono ?_); rintro e w' ⟨rfl, ⟨nd, rfl⟩⟩) | (go_at_call 49; (with_reducible refine (ashlarref03_Var.calls a0_0 false _ A13.out).mono ?_); rintro e w' ⟨rfl, ⟨nd, rfl⟩⟩))
                go_meet
                case rel => exact ⟨_, (false), (by first | rfl | (simp; done) | (simp [*]; done)), H', ⟨by first | omega | exact Nat.le_refl _⟩, ⟨by (with_reducible repeat (first | apply Kd.R_alloc | apply Kd.R_drewN | apply Kd.R_drew)); exact HO148.out⟩, ⟨by (with_reducible repeat (first | refine blk_drewN ?_ _ | refine blk_drew ?_ | refine blk_alloc ?_ _)); exact BK144.out⟩, ⟨by repeat (first | (with_reducible first | exact HB.out | apply below_alloc | apply pw_below_drewN | apply below_drew1 | refine below_set ?_ GE144.out) | exact HB.out)⟩⟩
              · rw [if_neg c23] at H
                have c23b0 : (a0_0 == 1) = false := beq_eq_false_iff_ne.mpr c23
                have c23b1 : (a0_0 != 1) = true := bne_iff_ne.mpr c23
                have H' := Aside0.mk H
                clear H
                have hcz25_0 : w7.cell? ⟨gb144, 0, none⟩ = some (.int .i64 a0_0) := (blk_cell BK144.out 0).trans rfl
                have hcz25_1 : w7.cell? ⟨gb144, 1, none⟩ = some (.string a0_1) := (blk_cell BK144.out 1).trans rfl
                have hcz25_2 : w7.cell? ⟨gb144, 2, none⟩ = some (.int .i64 a0_2) := (blk_cell BK144.out 2).trans rfl
                have hcz25_3 : w7.cell? ⟨gb144, 3, none⟩ = some (.slice A0_3 l0_3.length c0_3) := (blk_cell BK144.out 3).trans rfl
                have hfz25_0 := blk_frozen BK144.out 0
                have hfz25_1 := blk_frozen BK144.out 1
                have hfz25_2 := blk_frozen BK144.out 2
                have hfz25_3 := blk_frozen BK144.out 3
                go_wp2_with (first | (go_at_call 49; (with_reducible refine (ashlarref03_Var.calls a0_0 t150 _ A10.out).mono ?_); rintro e w' ⟨rfl, ⟨nd, rfl⟩⟩) | (go_at_call 49; (with_reducible refine (ashlarref03_Var.calls a0_0 false _ A13.out).mono ?_); rintro e w' ⟨rfl, ⟨nd, rfl⟩⟩))
                go_meet
                case rel => exact ⟨_, ((a0_0 != 6)), (by first | rfl | (simp; done) | (simp [*]; done)), H', ⟨by first | omega | exact Nat.le_refl _⟩, ⟨by (with_reducible repeat (first | apply Kd.R_alloc | apply Kd.R_drewN | apply Kd.R_drew)); exact HO148.out⟩, ⟨by (with_reducible repeat (first | refine blk_drewN ?_ _ | refine blk_drew ?_ | refine blk_alloc ?_ _)); exact BK144.out⟩, ⟨by repeat (first | (with_reducible first | exact HB.out | apply below_alloc | apply pw_below_drewN | apply below_drew1 | refine below_set ?_ GE144.out) | exact HB.out)⟩⟩
          · rw [if_neg c20] at H
            have c20b0 : (a0_1.toList == ([] : List UInt8)) = false := beq_eq_false_iff_ne.mpr c20
            have c20b1 : (a0_1.toList != ([] : List UInt8)) = true := bne_iff_ne.mpr c20
            have H' := Aside0.mk H
            clear H
            have hcz26_0 : w7.cell? ⟨gb144, 0, none⟩ = some (.int .i64 a0_0) := (blk_cell BK144.out 0).trans rfl
            have hcz26_1 : w7.cell? ⟨gb144, 1, none⟩ = some (.string a0_1) := (blk_cell BK144.out 1).trans rfl
            have hcz26_2 : w7.cell? ⟨gb144, 2, none⟩ = some (.int .i64 a0_2) := (blk_cell BK144.out 2).trans rfl
            have hcz26_3 : w7.cell? ⟨gb144, 3, none⟩ = some (.slice A0_3 l0_3.length c0_3) := (blk_cell BK144.out 3).trans rfl
            have hfz26_0 := blk_frozen BK144.out 0
            have hfz26_1 := blk_frozen BK144.out 1
            have hfz26_2 := blk_frozen BK144.out 2
            have hfz26_3 := blk_frozen BK144.out 3
            go_wp2_with (first | (go_at_call 49; (with_reducible refine (ashlarref03_Var.calls a0_0 t150 _ A10.out).mono ?_); rintro e w' ⟨rfl, ⟨nd, rfl⟩⟩) | (go_at_call 49; (with_reducible refine (ashlarref03_Var.calls a0_0 false _ A13.out).mono ?_); rintro e w' ⟨rfl, ⟨nd, rfl⟩⟩))
            go_meet
            case rel => exact ⟨_, (true), (by first | rfl | (simp; done) | (simp [*]; done)), H', ⟨by first | omega | exact Nat.le_refl _⟩, ⟨by (with_reducible repeat (first | apply Kd.R_alloc | apply Kd.R_drewN | apply Kd.R_drew)); exact HO148.out⟩, ⟨by (with_reducible repeat (first | refine blk_drewN ?_ _ | refine blk_drew ?_ | refine blk_alloc ?_ _)); exact BK144.out⟩, ⟨by repeat (first | (with_reducible first | exact HB.out | apply below_alloc | apply pw_below_drewN | apply below_drew1 | refine below_set ?_ GE144.out) | exact HB.out)⟩⟩
  case rest =>
    clear HC4
    try clear c1
    try clear c2
    try clear p2
    try clear c3
    try clear c4
    try clear c9
    try clear c9b0
    try clear c9b1
    try clear c11
    try clear c11b0
    try clear c11b1
    try clear c11b2
    try clear c14
    try clear c15
    try clear c15b0
    try clear c15b1
    try clear c17
    try clear c17b0
    try clear c17b1
    try clear c20
    try clear c20b0
    try clear c20b1
    try clear c21
    try clear c21b0
    try clear c21b1
    try clear c23
    try clear c23b0
    try clear c23b1
    try clear hcz12_0
    try clear hcz12_1
    try clear hcz12_2
    try clear hcz12_3
    try clear hcz16_0
    try clear hcz16_1
    try clear hcz16_2
    try clear hcz16_3
    try clear hcz18_0
    try clear hcz18_1
    try clear hcz18_2
    try clear hcz18_3
    try clear hcz19_0
    try clear hcz19_1
    try clear hcz19_2
    try clear hcz19_3
    try clear hcz22_0
    try clear hcz22_1
    try clear hcz22_2
    try clear hcz22_3
    try clear hcz24_0
    try clear hcz24_1
    try clear hcz24_2
    try clear hcz24_3
    try clear hcz25_0
    try clear hcz25_1
    try clear hcz25_2
    try clear hcz25_3
    try clear hcz26_0
    try clear hcz26_1
    try clear hcz26_2
    try clear hcz26_3
    try clear hcz6_0
    try clear hcz6_1
    try clear hcz6_2
    try clear hcz6_3
    try clear hcz8_0
    try clear hcz8_1
    try clear hcz8_2
    try clear hcz8_3
    try clear hfz12_0
    try clear hfz12_1
    try clear hfz12_2
    try clear hfz12_3
    try clear hfz16_0
    try clear hfz16_1
    try clear hfz16_2
    try clear hfz16_3
    try clear hfz18_0
    try clear hfz18_1
    try clear hfz18_2
    try clear hfz18_3
    try clear hfz19_0
    try clear hfz19_1
    try clear hfz19_2
    try clear hfz19_3
    try clear hfz22_0
    try clear hfz22_1
    try clear hfz22_2
    try clear hfz22_3
    try clear hfz24_0
    try clear hfz24_1
    try clear hfz24_2
    try clear hfz24_3
    try clear hfz25_0
    try clear hfz25_1
    try clear hfz25_2
    try clear hfz25_3
    try clear hfz26_0
    try clear hfz26_1
    try clear hfz26_2
    try clear hfz26_3
    try clear hfz6_0
    try clear hfz6_1
    try clear hfz6_2
    try clear hfz6_3
    try clear hfz8_0
    try clear hfz8_1
    try clear hfz8_2
    try clear hfz8_3
    obtain ⟨kq, x52_3, rfl, HA, HJ3, HO_4, BK144, HB⟩ := hcut
    cases kq with
    | zero => exact absurd HA.out (by simp [ashlarref03_sorted.j0])
    | succ kj3 =>
      have H := HA.out
      clear HA
      simp only [ashlarref03_sorted.j0] at H
      by_cases c27 : x52_3 = true
      · subst c27
        have H1 : (some 0) = some r := by rw [if_pos rfl] at H; exact H
        clear H
        have H := H1
        clear H1
        obtain rfl := Option.some.inj H
        go_wp2
        go_ret
        exact ⟨by first | rfl | (simp [errW_none, errW_some] <;> rfl) | (simp [*, errW_none, errW_some] <;> rfl), by repeat (first | (with_reducible first | exact HB.out | apply below_alloc | apply pw_below_drewN | apply below_drew1 | refine below_set ?_ GE144.out) | exact HB.out)⟩
      · replace c27 := Bool.eq_false_iff.mpr c27
        subst c27
        have H1 : (if (t146.length : Int) = 1 then (if 0 < (t146.length : Int) then (ashlarref03_sorted.j1 kj3 t145 t146 ((rd t146 0) == (-1)) a0_0 a0_1 a0_2 l0_3) else (none)) else (ashlarref03_sorted.j1 kj3 t145 t146 false a0_0 a0_1 a0_2 l0_3)) = some r := by rw [if_neg (show ¬ (false = true) by decide)] at H; exact H
        clear H
        have H := H1
        clear H1
        have HC28 := Aside0.mk H
        clear H
        go_upto_region 5 with (fail)
        go_cut [6] (fun v6 wc => ∃ (kq : Nat) (x6_27 : Bool), v6 = .bool x6_27 ∧ Aside0 (ashlarref03_sorted.j1 kq t145 t146 x6_27 a0_0 a0_1 a0_2 l0_3 = some r) ∧ Aside0 (kq ≤ kj3) ∧ Aside0 (Kd.R (Kd.int .i64) 3 wc w.heap.size (fun _ => True) v147 t146) ∧ Aside0 (wc.heap[gb144]? = some (.cells #[.int .i64 a0_0, .string a0_1, .int .i64 a0_2, (.slice A0_3 l0_3.length c0_3)] 24 (0, 0))) ∧ Aside0 (Below w.heap.size w wc))
        case first =>
          have H := HC28.out
          clear HC28
          by_cases c29 : (t146.length : Int) = 1
          · rw [if_pos c29] at H
            have c29b0 : ((t146.length : Int) == 1) = true := beq_iff_eq.mpr c29
            have c29b1 : ((t146.length : Int) != 1) = false := bne_eq_false_iff_eq.mpr c29
            clear c29
            (first | rw [c29b0] | (simp only [i64_w, i32_w]; rw [c29b0]) | skip)
            by_cases c30 : 0 < (t146.length : Int)
            · rw [if_pos c30] at H
              have c30b0 : decide (0 < (t146.length : Int)) = true := decide_eq_true c30
              have c30b1 : decide (0 < t146.length) = true := decide_eq_true (by omega)
              clear c30
              have H' := Aside0.mk H
              clear H
              obtain ⟨Ao31, co31, eo31⟩ := Kd.R_slice HO_4.out
              subst eo31
              have p152 : 0 ≤ (0 : Int) := (by omega)
              have q152 : 0 < (t146.length : Int) := of_decide_eq_true (by first | (with_reducible assumption) | assumption)
              obtain ⟨ad152, e152, hx152_0⟩ := Kd.at_int (Kd.R_reads' HO_4.out).2.2 0 p152 q152
              cases e152
              have qi152 : (0 < t146.length) = True := eq_true (by omega)
              (try rw [show ((0 : Int)).toNat = 0 from rfl] at hx152_0)
              (try rw [Addr.add_zero'] at hx152_0)
              replace p152 := eq_true p152
              replace q152 := eq_true q152
              go_wp2
              go_meet
              case rel => exact ⟨_, (((rd t146 0) == (-1))), (by first | rfl | (simp; done) | (simp [*]; done)), H', ⟨by have := HJ3.out; first | omega | exact Nat.le_refl _⟩, ⟨by (with_reducible repeat (first | apply Kd.R_alloc | apply Kd.R_drewN | apply Kd.R_drew)); exact HO_4.out⟩, ⟨by (with_reducible repeat (first | refine blk_drewN ?_ _ | refine blk_drew ?_ | refine blk_alloc ?_ _)); exact BK144.out⟩, ⟨by repeat (first | (with_reducible first | exact HB.out | apply below_alloc | apply pw_below_drewN | apply below_drew1 | refine below_set ?_ GE144.out) | exact HB.out)⟩⟩
            · rw [if_neg c30] at H
              exact absurd H (by simp)
          · rw [if_neg c29] at H
            have c29b0 : ((t146.length : Int) == 1) = false := beq_eq_false_iff_ne.mpr c29
            have c29b1 : ((t146.length : Int) != 1) = true := bne_iff_ne.mpr c29
            (first | rw [c29b0] | (simp only [i64_w, i32_w]; rw [c29b0]) | skip)
            have H' := Aside0.mk H
            clear H
            obtain ⟨Ao32, co32, eo32⟩ := Kd.R_slice HO_4.out
            subst eo32
            go_wp2
            go_meet
            case rel => exact ⟨_, (false), (by first | rfl | (simp; done) | (simp [*]; done)), H', ⟨by have := HJ3.out; first | omega | exact Nat.le_refl _⟩, ⟨by (with_reducible repeat (first | apply Kd.R_alloc | apply Kd.R_drewN | apply Kd.R_drew)); exact HO_4.out⟩, ⟨by (with_reducible repeat (first | refine blk_drewN ?_ _ | refine blk_drew ?_ | refine blk_alloc ?_ _)); exact BK144.out⟩, ⟨by repeat (first | (with_reducible first | exact HB.out | apply below_alloc | apply pw_below_drewN | apply below_drew1 | refine below_set ?_ GE144.out) | exact HB.out)⟩⟩
        case rest =>
          clear HC28
          try clear c1
          try clear p1
          try clear q1
          try clear hx1
          try clear qi1
          try clear c2
          try clear p2
          try clear c3
          try clear c4
          try clear c9
          try clear c9b0
          try clear c9b1
          try clear c11
          try clear c11b0
          try clear c11b1
          try clear c11b2
          try clear c14
          try clear c15
          try clear c15b0
          try clear c15b1
          try clear p15
          try clear q15
          try clear hx15
          try clear qi15
          try clear c17
          try clear c17b0
          try clear c17b1
          try clear c20
          try clear c20b0
          try clear c20b1
          try clear c21
          try clear c21b0
          try clear c21b1
          try clear c23
          try clear c23b0
          try clear c23b1
          try clear c27
          try clear c29
          try clear c29b0
          try clear c29b1
          try clear c30
          try clear c30b0
          try clear c30b1
          try clear hcz12_0
          try clear hcz12_1
          try clear hcz12_2
          try clear hcz12_3
          try clear hcz16_0
          try clear hcz16_1
          try clear hcz16_2
          try clear hcz16_3
          try clear hcz18_0
          try clear hcz18_1
          try clear hcz18_2
          try clear hcz18_3
          try clear hcz19_0
          try clear hcz19_1
          try clear hcz19_2
          try clear hcz19_3
          try clear hcz22_0
          try clear hcz22_1
          try clear hcz22_2
          try clear hcz22_3
          try clear hcz24_0
          try clear hcz24_1
          try clear hcz24_2
          try clear hcz24_3
          try clear hcz25_0
          try clear hcz25_1
          try clear hcz25_2
          try clear hcz25_3
          try clear hcz26_0
          try clear hcz26_1
          try clear hcz26_2
          try clear hcz26_3
          try clear hcz6_0
          try clear hcz6_1
          try clear hcz6_2
          try clear hcz6_3
          try clear hcz8_0
          try clear hcz8_1
          try clear hcz8_2
          try clear hcz8_3
          try clear hfz12_0
          try clear hfz12_1
          try clear hfz12_2
          try clear hfz12_3
          try clear hfz16_0
          try clear hfz16_1
          try clear hfz16_2
          try clear hfz16_3
          try clear hfz18_0
          try clear hfz18_1
          try clear hfz18_2
          try clear hfz18_3
          try clear hfz19_0
          try clear hfz19_1
          try clear hfz19_2
          try clear hfz19_3
          try clear hfz22_0
          try clear hfz22_1
          try clear hfz22_2
          try clear hfz22_3
          try clear hfz24_0
          try clear hfz24_1
          try clear hfz24_2
          try clear hfz24_3
          try clear hfz25_0
          try clear hfz25_1
          try clear hfz25_2
          try clear hfz25_3
          try clear hfz26_0
          try clear hfz26_1
          try clear hfz26_2
          try clear hfz26_3
          try clear hfz6_0
          try clear hfz6_1
          try clear hfz6_2
          try clear hfz6_3
          try clear hfz8_0
          try clear hfz8_1
          try clear hfz8_2
          try clear hfz8_3
          try clear hx152_0
          try clear p152
          try clear p2
          try clear q152
          obtain ⟨kq, x6_27, rfl, HA, HJ27, HO_4, BK144, HB⟩ := hcut
          cases kq with
          | zero => exact absurd HA.out (by simp [ashlarref03_sorted.j1])
          | succ kj27 =>
            have H := HA.out
            clear HA
            simp only [ashlarref03_sorted.j1] at H
            have HC33 := Aside0.mk H
            clear H
            go_upto_region 6 with (fail)
            go_cut [71] (fun v71 wc => ∃ (kq : Nat) (x71_32 : Bool), v71 = .bool x71_32 ∧ Aside0 (ashlarref03_sorted.j2 kq t145 t146 x6_27 x71_32 a0_0 a0_1 a0_2 l0_3 = some r) ∧ Aside0 (kq ≤ kj27) ∧ Aside0 (Kd.R (Kd.int .i64) 3 wc w.heap.size (fun _ => True) v147 t146) ∧ Aside0 (wc.heap[gb144]? = some (.cells #[.int .i64 a0_0, .string a0_1, .int .i64 a0_2, (.slice A0_3 l0_3.length c0_3)] 24 (0, 0))) ∧ Aside0 (Below w.heap.size w wc))
            case first =>
              have H := HC33.out
              clear HC33
              by_cases c34 : x6_27 = true
              · subst c34
                have H1 : (ashlarref03_sorted.j2 kj27 t145 t146 true false a0_0 a0_1 a0_2 l0_3) = some r := by rw [if_pos rfl] at H; exact H
                clear H
                have H := H1
                clear H1
                have H' := Aside0.mk H
                clear H
                go_wp2
                go_meet
                case rel => exact ⟨_, (false), (by first | rfl | (simp; done) | (simp [*]; done)), H', ⟨by have := HJ3.out; have := HJ27.out; first | omega | exact Nat.le_refl _⟩, ⟨by (with_reducible repeat (first | apply Kd.R_alloc | apply Kd.R_drewN | apply Kd.R_drew)); exact HO_4.out⟩, ⟨by (with_reducible repeat (first | refine blk_drewN ?_ _ | refine blk_drew ?_ | refine blk_alloc ?_ _)); exact BK144.out⟩, ⟨by repeat (first | (with_reducible first | exact HB.out | apply below_alloc | apply pw_below_drewN | apply below_drew1 | refine below_set ?_ GE144.out) | exact HB.out)⟩⟩
              · replace c34 := Bool.eq_false_iff.mpr c34
                subst c34
                have H1 : (ashlarref03_sorted.j2 kj27 t145 t146 false ((l0_3.length : Int) != (t146.length : Int)) a0_0 a0_1 a0_2 l0_3) = some r := by rw [if_neg (show ¬ (false = true) by decide)] at H; exact H
                clear H
                have H := H1
                clear H1
                have H' := Aside0.mk H
                clear H
                have hcz35_0 : wc.cell? ⟨gb144, 0, none⟩ = some (.int .i64 a0_0) := (blk_cell BK144.out 0).trans rfl
                have hcz35_1 : wc.cell? ⟨gb144, 1, none⟩ = some (.string a0_1) := (blk_cell BK144.out 1).trans rfl
                have hcz35_2 : wc.cell? ⟨gb144, 2, none⟩ = some (.int .i64 a0_2) := (blk_cell BK144.out 2).trans rfl
                have hcz35_3 : wc.cell? ⟨gb144, 3, none⟩ = some (.slice A0_3 l0_3.length c0_3) := (blk_cell BK144.out 3).trans rfl
                have hfz35_0 := blk_frozen BK144.out 0
                have hfz35_1 := blk_frozen BK144.out 1
                have hfz35_2 := blk_frozen BK144.out 2
                have hfz35_3 := blk_frozen BK144.out 3
                obtain ⟨Ao36, co36, eo36⟩ := Kd.R_slice HO_4.out
                subst eo36
                go_wp2
                go_meet
                case rel => exact ⟨_, (((l0_3.length : Int) != (t146.length : Int))), (by first | rfl | (simp; done) | (simp [*]; done)), H', ⟨by have := HJ3.out; have := HJ27.out; first | omega | exact Nat.le_refl _⟩, ⟨by (with_reducible repeat (first | apply Kd.R_alloc | apply Kd.R_drewN | apply Kd.R_drew)); exact HO_4.out⟩, ⟨by (with_reducible repeat (first | refine blk_drewN ?_ _ | refine blk_drew ?_ | refine blk_alloc ?_ _)); exact BK144.out⟩, ⟨by repeat (first | (with_reducible first | exact HB.out | apply below_alloc | apply pw_below_drewN | apply below_drew1 | refine below_set ?_ GE144.out) | exact HB.out)⟩⟩
            case rest =>
              clear HC33
              try clear c1
              try clear p1
              try clear q1
              try clear hx1
              try clear qi1
              try clear c2
              try clear p2
              try clear c3
              try clear c4
              try clear c9
              try clear c9b0
              try clear c9b1
              try clear c11
              try clear c11b0
              try clear c11b1
              try clear c11b2
              try clear c14
              try clear c15
              try clear c15b0
              try clear c15b1
              try clear p15
              try clear q15
              try clear hx15
              try clear qi15
              try clear c17
              try clear c17b0
              try clear c17b1
              try clear c20
              try clear c20b0
              try clear c20b1
              try clear c21
              try clear c21b0
              try clear c21b1
              try clear c23
              try clear c23b0
              try clear c23b1
              try clear c27
              try clear c29
              try clear c29b0
              try clear c29b1
              try clear c30
              try clear c30b0
              try clear c30b1
              try clear c34
              try clear hcz12_0
              try clear hcz12_1
              try clear hcz12_2
              try clear hcz12_3
              try clear hcz16_0
              try clear hcz16_1
              try clear hcz16_2
              try clear hcz16_3
              try clear hcz18_0
              try clear hcz18_1
              try clear hcz18_2
              try clear hcz18_3
              try clear hcz19_0
              try clear hcz19_1
              try clear hcz19_2
              try clear hcz19_3
              try clear hcz22_0
              try clear hcz22_1
              try clear hcz22_2
              try clear hcz22_3
              try clear hcz24_0
              try clear hcz24_1
              try clear hcz24_2
              try clear hcz24_3
              try clear hcz25_0
              try clear hcz25_1
              try clear hcz25_2
              try clear hcz25_3
              try clear hcz26_0
              try clear hcz26_1
              try clear hcz26_2
              try clear hcz26_3
              try clear hcz35_0
              try clear hcz35_1
              try clear hcz35_2
              try clear hcz35_3
              try clear hcz6_0
              try clear hcz6_1
              try clear hcz6_2
              try clear hcz6_3
              try clear hcz8_0
              try clear hcz8_1
              try clear hcz8_2
              try clear hcz8_3
              try clear hfz12_0
              try clear hfz12_1
              try clear hfz12_2
              try clear hfz12_3
              try clear hfz16_0
              try clear hfz16_1
              try clear hfz16_2
              try clear hfz16_3
              try clear hfz18_0
              try clear hfz18_1
              try clear hfz18_2
              try clear hfz18_3
              try clear hfz19_0
              try clear hfz19_1
              try clear hfz19_2
              try clear hfz19_3
              try clear hfz22_0
              try clear hfz22_1
              try clear hfz22_2
              try clear hfz22_3
              try clear hfz24_0
              try clear hfz24_1
              try clear hfz24_2
              try clear hfz24_3
              try clear hfz25_0
              try clear hfz25_1
              try clear hfz25_2
              try clear hfz25_3
              try clear hfz26_0
              try clear hfz26_1
              try clear hfz26_2
              try clear hfz26_3
              try clear hfz35_0
              try clear hfz35_1
              try clear hfz35_2
              try clear hfz35_3
              try clear hfz6_0
              try clear hfz6_1
              try clear hfz6_2
              try clear hfz6_3
              try clear hfz8_0
              try clear hfz8_1
              try clear hfz8_2
              try clear hfz8_3
              try clear hx152_0
              try clear p1
              try clear p15
              try clear p152
              try clear p2
              try clear q1
              try clear q15
              try clear q152
              obtain ⟨kq, x71_32, rfl, HA, HJ32, HO_4, BK144, HB⟩ := hcut
              cases kq with
              | zero => exact absurd HA.out (by simp [ashlarref03_sorted.j2])
              | succ kj32 =>
                have H := HA.out
                clear HA
                simp only [ashlarref03_sorted.j2] at H
                by_cases c37 : x71_32 = true
                · subst c37
                  have H1 : (some 0) = some r := by rw [if_pos rfl] at H; exact H
                  clear H
                  have H := H1
                  clear H1
                  obtain rfl := Option.some.inj H
                  go_wp2
                  go_ret
                  exact ⟨by first | rfl | (simp [errW_none, errW_some] <;> rfl) | (simp [*, errW_none, errW_some] <;> rfl), by repeat (first | (with_reducible first | exact HB.out | apply below_alloc | apply pw_below_drewN | apply below_drew1 | refine below_set ?_ GE144.out) | exact HB.out)⟩
                · replace c37 := Bool.eq_false_iff.mpr c37
                  subst c37
                  have H1 : (ashlarref03_sorted.l0 kj32 t145 t146 x6_27 0 a0_0 a0_1 a0_2 l0_3) = some r := by rw [if_neg (show ¬ (false = true) by decide)] at H; exact H
                  clear H
                  have H := H1
                  clear H1
                  have H' := Aside0.mk H
                  clear H
                  go_wp2
                  go_loopg [7] kj32 (fun kq v7 w' => ∃ (x7_4 : Int), v7 = .int .i64 x7_4 ∧ Aside0 (ashlarref03_sorted.l0 kq t145 t146 x6_27 x7_4 a0_0 a0_1 a0_2 l0_3 = some r) ∧ Aside0 (kq ≤ kj32) ∧ Aside0 (Kd.R (Kd.int .i64) 3 w' w.heap.size (fun _ => True) v147 t146) ∧ Aside0 (w'.heap[gb144]? = some (.cells #[.int .i64 a0_0, .string a0_1, .int .i64 a0_2, (.slice A0_3 l0_3.length c0_3)] 24 (0, 0))) ∧ Aside0 (Below w.heap.size w w'))
                  case atStart => exact ⟨(0), (by first | rfl | (simp; done) | (simp [*]; done)), H', ⟨Nat.le_refl _⟩, ⟨by (with_reducible repeat (first | apply Kd.R_alloc | apply Kd.R_drewN | apply Kd.R_drew)); exact HO_4.out⟩, ⟨by (with_reducible repeat (first | refine blk_drewN ?_ _ | refine blk_drew ?_ | refine blk_alloc ?_ _)); exact BK144.out⟩, ⟨by repeat (first | (with_reducible first | exact HB.out | apply below_alloc | apply pw_below_drewN | apply below_drew1 | refine below_set ?_ GE144.out) | exact HB.out)⟩⟩
                  case round =>
                    clear H'
                    try clear c1
                    try clear p1
                    try clear q1
                    try clear hx1
                    try clear qi1
                    try clear c2
                    try clear p2
                    try clear c3
                    try clear c4
                    try clear c9
                    try clear c9b0
                    try clear c9b1
                    try clear c11
                    try clear c11b0
                    try clear c11b1
                    try clear c11b2
                    try clear c14
                    try clear c15
                    try clear c15b0
                    try clear c15b1
                    try clear p15
                    try clear q15
                    try clear hx15
                    try clear qi15
                    try clear c17
                    try clear c17b0
                    try clear c17b1
                    try clear c20
                    try clear c20b0
                    try clear c20b1
                    try clear c21
                    try clear c21b0
                    try clear c21b1
                    try clear c23
                    try clear c23b0
                    try clear c23b1
                    try clear c27
                    try clear c29
                    try clear c29b0
                    try clear c29b1
                    try clear c30
                    try clear c30b0
                    try clear c30b1
                    try clear c34
                    try clear c37
                    try clear hcz12_0
                    try clear hcz12_1
                    try clear hcz12_2
                    try clear hcz12_3
                    try clear hcz16_0
                    try clear hcz16_1
                    try clear hcz16_2
                    try clear hcz16_3
                    try clear hcz18_0
                    try clear hcz18_1
                    try clear hcz18_2
                    try clear hcz18_3
                    try clear hcz19_0
                    try clear hcz19_1
                    try clear hcz19_2
                    try clear hcz19_3
                    try clear hcz22_0
                    try clear hcz22_1
                    try clear hcz22_2
                    try clear hcz22_3
                    try clear hcz24_0
                    try clear hcz24_1
                    try clear hcz24_2
                    try clear hcz24_3
                    try clear hcz25_0
                    try clear hcz25_1
                    try clear hcz25_2
                    try clear hcz25_3
                    try clear hcz26_0
                    try clear hcz26_1
                    try clear hcz26_2
                    try clear hcz26_3
                    try clear hcz35_0
                    try clear hcz35_1
                    try clear hcz35_2
                    try clear hcz35_3
                    try clear hcz6_0
                    try clear hcz6_1
                    try clear hcz6_2
                    try clear hcz6_3
                    try clear hcz8_0
                    try clear hcz8_1
                    try clear hcz8_2
                    try clear hcz8_3
                    try clear hfz12_0
                    try clear hfz12_1
                    try clear hfz12_2
                    try clear hfz12_3
                    try clear hfz16_0
                    try clear hfz16_1
                    try clear hfz16_2
                    try clear hfz16_3
                    try clear hfz18_0
                    try clear hfz18_1
                    try clear hfz18_2
                    try clear hfz18_3
                    try clear hfz19_0
                    try clear hfz19_1
                    try clear hfz19_2
                    try clear hfz19_3
                    try clear hfz22_0
                    try clear hfz22_1
                    try clear hfz22_2
                    try clear hfz22_3
                    try clear hfz24_0
                    try clear hfz24_1
                    try clear hfz24_2
                    try clear hfz24_3
                    try clear hfz25_0
                    try clear hfz25_1
                    try clear hfz25_2
                    try clear hfz25_3
                    try clear hfz26_0
                    try clear hfz26_1
                    try clear hfz26_2
                    try clear hfz26_3
                    try clear hfz35_0
                    try clear hfz35_1
                    try clear hfz35_2
                    try clear hfz35_3
                    try clear hfz6_0
                    try clear hfz6_1
                    try clear hfz6_2
                    try clear hfz6_3
                    try clear hfz8_0
                    try clear hfz8_1
                    try clear hfz8_2
                    try clear hfz8_3
                    try clear hx152_0
                    try clear p1
                    try clear p15
                    try clear p152
                    try clear p2
                    try clear q1
                    try clear q15
                    try clear q152
                    obtain ⟨x7_4, rfl, HA, HK4, HO_4, BK144, HB⟩ := hrel
                    cases gk with
                    | zero => exact absurd HA.out (by simp [ashlarref03_sorted.l0])
                    | succ k4 =>
                      have H := HA.out
                      clear HA
                      simp only [ashlarref03_sorted.l0] at H
                      by_cases c38 : x7_4 < (l0_3.length : Int)
                      · rw [if_pos c38] at H
                        have c38b0 : decide (x7_4 < (l0_3.length : Int)) = true := decide_eq_true c38
                        clear c38
                        by_cases c39 : 0 ≤ x7_4
                        · rw [if_pos c39] at H
                          have c39b0 : decide (0 ≤ x7_4) = true := decide_eq_true c39
                          clear c39
                          replace H := Option.bind_eq_some_iff.mp H
                          obtain ⟨t154, A400, H⟩ := H
                          replace H : (if x6_27 = true then (if t154 = 4 then (ashlarref03_sorted.l0 k4 t145 t146 x6_27 (wrap64 (x7_4 + 1)) a0_0 a0_1 a0_2 l0_3) else (some 0)) else (if x7_4 < (t146.length : Int) then (if t154 = (rd t146 x7_4) then (ashlarref03_sorted.l0 k4 t145 t146 x6_27 (wrap64 (x7_4 + 1)) a0_0 a0_1 a0_2 l0_3) else (some 0)) else (none))) = some r := H
                          have A40 := Aside0.mk A400
                          clear A400
                          by_cases c41 : x6_27 = true
                          · subst c41
                            have H1 : (if t154 = 4 then (ashlarref03_sorted.l0 k4 t145 t146 true (wrap64 (x7_4 + 1)) a0_0 a0_1 a0_2 l0_3) else (some 0)) = some r := by rw [if_pos rfl] at H; exact H
                            clear H
                            have H := H1
                            clear H1
                            by_cases c42 : t154 = 4
                            · rw [if_pos c42] at H
                              have c42b0 : (t154 == 4) = true := beq_iff_eq.mpr c42
                              have c42b1 : (t154 != 4) = false := bne_eq_false_iff_eq.mpr c42
                              clear c42
                              have H' := Aside0.mk H
                              clear H
                              have hcz43_0 : wr.cell? ⟨gb144, 0, none⟩ = some (.int .i64 a0_0) := (blk_cell BK144.out 0).trans rfl
                              have hcz43_1 : wr.cell? ⟨gb144, 1, none⟩ = some (.string a0_1) := (blk_cell BK144.out 1).trans rfl
                              have hcz43_2 : wr.cell? ⟨gb144, 2, none⟩ = some (.int .i64 a0_2) := (blk_cell BK144.out 2).trans rfl
                              have hcz43_3 : wr.cell? ⟨gb144, 3, none⟩ = some (.slice A0_3 l0_3.length c0_3) := (blk_cell BK144.out 3).trans rfl
                              have hfz43_0 := blk_frozen BK144.out 0
                              have hfz43_1 := blk_frozen BK144.out 1
                              have hfz43_2 := blk_frozen BK144.out 2
                              have hfz43_3 := blk_frozen BK144.out 3
                              have p153 : 0 ≤ (x7_4 : Int) := of_decide_eq_true (by first | (with_reducible assumption) | assumption)
                              have q153 : x7_4 < (l0_3.length : Int) := of_decide_eq_true (by first | (with_reducible assumption) | assumption)
                              obtain ⟨ad153, A153_3, c153_3, e153, hx153_0, hx153_1, hx153_2, hx153_3, hl153_3, hi153_3⟩ := at_T24 HR0_3.out x7_4 p153 q153
                              cases e153
                              replace hx153_0 := (HB.out.cell (World.block_lt_of_cell? w _ hx153_0)).trans hx153_0
                              replace hx153_1 := (HB.out.cell (World.block_lt_of_cell? w _ hx153_1)).trans hx153_1
                              replace hx153_2 := (HB.out.cell (World.block_lt_of_cell? w _ hx153_2)).trans hx153_2
                              replace hx153_3 := (HB.out.cell (World.block_lt_of_cell? w _ hx153_3)).trans hx153_3
                              have HR153_3 := Aside0.mk hi153_3
                              have HC153_3 := Aside0.mk hl153_3
                              clear hi153_3 hl153_3
                              replace p153 := eq_true p153
                              replace q153 := eq_true q153
                              go_wp2_with (first | ((with_reducible refine gate_callee (f := 34) rfl ?_); refine goesL_ (some 84) rfl rfl Tryd.func34 (by kernel_rfl) rfl #[.agg #[.int .i64 ((rd_T24 l0_3 x7_4).f0), .string ((rd_T24 l0_3 x7_4).f1), .int .i64 ((rd_T24 l0_3 x7_4).f2), .slice A153_3 ((rd_T24 l0_3 x7_4).f3).length c153_3]] rfl (by (try simp only [List.map_toArray, List.map_cons, List.map_nil]); first | done | rfl | (simp only [List.length_drop, List.length_take]; rfl)) ?_; (with_reducible refine (ih k4 (by have := HJ3.out; have := HJ27.out; have := HJ32.out; have := HK4.out; omega) ((rd_T24 l0_3 x7_4).f0) ((rd_T24 l0_3 x7_4).f1) ((rd_T24 l0_3 x7_4).f2) _ _ ((rd_T24 l0_3 x7_4).f3) t154 _ ?side1 ?side2 A40.out).mono ?_); (case side1 => repeat (first | exact (Kd.C_below HR153_3.out HB.out) | (with_reducible refine Kd.C_alloc ?_ _) | (with_reducible refine Kd.C_drewN ?_ _) | (with_reducible refine Kd.C_drew ?_))); (case side2 => exact HC153_3.out); rintro e w44 ⟨rfl, hb⟩; refine ⟨_, rfl, ?_⟩; have n0_ := Aside0.mk (Kd.R_below (by (with_reducible repeat (first | apply Kd.R_alloc | apply Kd.R_drewN | apply Kd.R_drew)); exact HO_4.out) hb); have n1_ := Aside0.mk (blk_below (g := gb144) (o := .cells #[.int .i64 a0_0, .string a0_1, .int .i64 a0_2, .slice (some ad153) l0_3.length c0_3] 24 (0, 0)) (by (with_reducible repeat (first | refine blk_drewN ?_ _ | refine blk_drew ?_ | refine blk_alloc ?_ _)); exact BK144.out) hb); have n2_ := Aside0.mk (below_step (by repeat (first | (with_reducible first | exact HB.out | apply below_alloc | apply pw_below_drewN | apply below_drew1 | refine below_set ?_ GE144.out) | exact HB.out)) hb); clear HO_4; clear BK144; clear HB; have HO_4 := n0_; have BK144 := n1_; have HB := n2_; clear n0_ n1_ n2_; (try clear hb); (try clear hb2); (try clear hk); (try clear hi)))
                              go_roundg k4
                              case measure => have := HJ3.out; have := HJ27.out; have := HJ32.out; have := HK4.out; omega
                              case rel => exact ⟨(wrap64 (x7_4 + 1)), (by first | rfl | (simp; done) | (simp [*]; done)), H', ⟨by have := HJ3.out; have := HJ27.out; have := HJ32.out; have := HK4.out; omega⟩, ⟨by (with_reducible repeat (first | apply Kd.R_alloc | apply Kd.R_drewN | apply Kd.R_drew)); exact HO_4.out⟩, ⟨by (with_reducible repeat (first | refine blk_drewN ?_ _ | refine blk_drew ?_ | refine blk_alloc ?_ _)); exact BK144.out⟩, ⟨by repeat (first | (with_reducible first | exact HB.out | apply below_alloc | apply pw_below_drewN | apply below_drew1 | refine below_set ?_ GE144.out) | exact HB.out)⟩⟩
                            · rw [if_neg c42] at H
                              have c42b0 : (t154 == 4) = false := beq_eq_false_iff_ne.mpr c42
                              have c42b1 : (t154 != 4) = true := bne_iff_ne.mpr c42
                              obtain rfl := Option.some.inj H
                              have hcz45_0 : wr.cell? ⟨gb144, 0, none⟩ = some (.int .i64 a0_0) := (blk_cell BK144.out 0).trans rfl
                              have hcz45_1 : wr.cell? ⟨gb144, 1, none⟩ = some (.string a0_1) := (blk_cell BK144.out 1).trans rfl
                              have hcz45_2 : wr.cell? ⟨gb144, 2, none⟩ = some (.int .i64 a0_2) := (blk_cell BK144.out 2).trans rfl
                              have hcz45_3 : wr.cell? ⟨gb144, 3, none⟩ = some (.slice A0_3 l0_3.length c0_3) := (blk_cell BK144.out 3).trans rfl
                              have hfz45_0 := blk_frozen BK144.out 0
                              have hfz45_1 := blk_frozen BK144.out 1
                              have hfz45_2 := blk_frozen BK144.out 2
                              have hfz45_3 := blk_frozen BK144.out 3
                              have p153 : 0 ≤ (x7_4 : Int) := of_decide_eq_true (by first | (with_reducible assumption) | assumption)
                              have q153 : x7_4 < (l0_3.length : Int) := of_decide_eq_true (by first | (with_reducible assumption) | assumption)
                              obtain ⟨ad153, A153_3, c153_3, e153, hx153_0, hx153_1, hx153_2, hx153_3, hl153_3, hi153_3⟩ := at_T24 HR0_3.out x7_4 p153 q153
                              cases e153
                              replace hx153_0 := (HB.out.cell (World.block_lt_of_cell? w _ hx153_0)).trans hx153_0
                              replace hx153_1 := (HB.out.cell (World.block_lt_of_cell? w _ hx153_1)).trans hx153_1
                              replace hx153_2 := (HB.out.cell (World.block_lt_of_cell? w _ hx153_2)).trans hx153_2
                              replace hx153_3 := (HB.out.cell (World.block_lt_of_cell? w _ hx153_3)).trans hx153_3
                              have HR153_3 := Aside0.mk hi153_3
                              have HC153_3 := Aside0.mk hl153_3
                              clear hi153_3 hl153_3
                              replace p153 := eq_true p153
                              replace q153 := eq_true q153
                              go_wp2_with (first | ((with_reducible refine gate_callee (f := 34) rfl ?_); refine goesL_ (some 84) rfl rfl Tryd.func34 (by kernel_rfl) rfl #[.agg #[.int .i64 ((rd_T24 l0_3 x7_4).f0), .string ((rd_T24 l0_3 x7_4).f1), .int .i64 ((rd_T24 l0_3 x7_4).f2), .slice A153_3 ((rd_T24 l0_3 x7_4).f3).length c153_3]] rfl (by (try simp only [List.map_toArray, List.map_cons, List.map_nil]); first | done | rfl | (simp only [List.length_drop, List.length_take]; rfl)) ?_; (with_reducible refine (ih k4 (by have := HJ3.out; have := HJ27.out; have := HJ32.out; have := HK4.out; omega) ((rd_T24 l0_3 x7_4).f0) ((rd_T24 l0_3 x7_4).f1) ((rd_T24 l0_3 x7_4).f2) _ _ ((rd_T24 l0_3 x7_4).f3) t154 _ ?side1 ?side2 A40.out).mono ?_); (case side1 => repeat (first | exact (Kd.C_below HR153_3.out HB.out) | (with_reducible refine Kd.C_alloc ?_ _) | (with_reducible refine Kd.C_drewN ?_ _) | (with_reducible refine Kd.C_drew ?_))); (case side2 => exact HC153_3.out); rintro e w46 ⟨rfl, hb⟩; refine ⟨_, rfl, ?_⟩; have n0_ := Aside0.mk (Kd.R_below (by (with_reducible repeat (first | apply Kd.R_alloc | apply Kd.R_drewN | apply Kd.R_drew)); exact HO_4.out) hb); have n1_ := Aside0.mk (blk_below (g := gb144) (o := .cells #[.int .i64 a0_0, .string a0_1, .int .i64 a0_2, .slice (some ad153) l0_3.length c0_3] 24 (0, 0)) (by (with_reducible repeat (first | refine blk_drewN ?_ _ | refine blk_drew ?_ | refine blk_alloc ?_ _)); exact BK144.out) hb); have n2_ := Aside0.mk (below_step (by repeat (first | (with_reducible first | exact HB.out | apply below_alloc | apply pw_below_drewN | apply below_drew1 | refine below_set ?_ GE144.out) | exact HB.out)) hb); clear HO_4; clear BK144; clear HB; have HO_4 := n0_; have BK144 := n1_; have HB := n2_; clear n0_ n1_ n2_; (try clear hb); (try clear hb2); (try clear hk); (try clear hi)))
                              go_ret
                              exact ⟨by first | rfl | (simp [errW_none, errW_some] <;> rfl) | (simp [*, errW_none, errW_some] <;> rfl), by repeat (first | (with_reducible first | exact HB.out | apply below_alloc | apply pw_below_drewN | apply below_drew1 | refine below_set ?_ GE144.out) | exact HB.out)⟩
                          · replace c41 := Bool.eq_false_iff.mpr c41
                            subst c41
                            have H1 : (if x7_4 < (t146.length : Int) then (if t154 = (rd t146 x7_4) then (ashlarref03_sorted.l0 k4 t145 t146 false (wrap64 (x7_4 + 1)) a0_0 a0_1 a0_2 l0_3) else (some 0)) else (none)) = some r := by rw [if_neg (show ¬ (false = true) by decide)] at H; exact H
                            clear H
                            have H := H1
                            clear H1
                            by_cases c47 : x7_4 < (t146.length : Int)
                            · rw [if_pos c47] at H
                              have c47b0 : decide (x7_4 < (t146.length : Int)) = true := decide_eq_true c47
                              clear c47
                              by_cases c48 : t154 = (rd t146 x7_4)
                              · rw [if_pos c48] at H
                                have c48b0 : (t154 == (rd t146 x7_4)) = true := beq_iff_eq.mpr c48
                                have c48b1 : (t154 != (rd t146 x7_4)) = false := bne_eq_false_iff_eq.mpr c48
                                clear c48
                                have H' := Aside0.mk H
                                clear H
                                have hcz49_0 : wr.cell? ⟨gb144, 0, none⟩ = some (.int .i64 a0_0) := (blk_cell BK144.out 0).trans rfl
                                have hcz49_1 : wr.cell? ⟨gb144, 1, none⟩ = some (.string a0_1) := (blk_cell BK144.out 1).trans rfl
                                have hcz49_2 : wr.cell? ⟨gb144, 2, none⟩ = some (.int .i64 a0_2) := (blk_cell BK144.out 2).trans rfl
                                have hcz49_3 : wr.cell? ⟨gb144, 3, none⟩ = some (.slice A0_3 l0_3.length c0_3) := (blk_cell BK144.out 3).trans rfl
                                have hfz49_0 := blk_frozen BK144.out 0
                                have hfz49_1 := blk_frozen BK144.out 1
                                have hfz49_2 := blk_frozen BK144.out 2
                                have hfz49_3 := blk_frozen BK144.out 3
                                have p153 : 0 ≤ (x7_4 : Int) := of_decide_eq_true (by first | (with_reducible assumption) | assumption)
                                have q153 : x7_4 < (l0_3.length : Int) := of_decide_eq_true (by first | (with_reducible assumption) | assumption)
                                obtain ⟨ad153, A153_3, c153_3, e153, hx153_0, hx153_1, hx153_2, hx153_3, hl153_3, hi153_3⟩ := at_T24 HR0_3.out x7_4 p153 q153
                                cases e153
                                replace hx153_0 := (HB.out.cell (World.block_lt_of_cell? w _ hx153_0)).trans hx153_0
                                replace hx153_1 := (HB.out.cell (World.block_lt_of_cell? w _ hx153_1)).trans hx153_1
                                replace hx153_2 := (HB.out.cell (World.block_lt_of_cell? w _ hx153_2)).trans hx153_2
                                replace hx153_3 := (HB.out.cell (World.block_lt_of_cell? w _ hx153_3)).trans hx153_3
                                have HR153_3 := Aside0.mk hi153_3
                                have HC153_3 := Aside0.mk hl153_3
                                clear hi153_3 hl153_3
                                replace p153 := eq_true p153
                                replace q153 := eq_true q153
                                go_wp2_with (first | ((with_reducible refine gate_callee (f := 34) rfl ?_); refine goesL_ (some 84) rfl rfl Tryd.func34 (by kernel_rfl) rfl #[.agg #[.int .i64 ((rd_T24 l0_3 x7_4).f0), .string ((rd_T24 l0_3 x7_4).f1), .int .i64 ((rd_T24 l0_3 x7_4).f2), .slice A153_3 ((rd_T24 l0_3 x7_4).f3).length c153_3]] rfl (by (try simp only [List.map_toArray, List.map_cons, List.map_nil]); first | done | rfl | (simp only [List.length_drop, List.length_take]; rfl)) ?_; (with_reducible refine (ih k4 (by have := HJ3.out; have := HJ27.out; have := HJ32.out; have := HK4.out; omega) ((rd_T24 l0_3 x7_4).f0) ((rd_T24 l0_3 x7_4).f1) ((rd_T24 l0_3 x7_4).f2) _ _ ((rd_T24 l0_3 x7_4).f3) t154 _ ?side1 ?side2 A40.out).mono ?_); (case side1 => repeat (first | exact (Kd.C_below HR153_3.out HB.out) | (with_reducible refine Kd.C_alloc ?_ _) | (with_reducible refine Kd.C_drewN ?_ _) | (with_reducible refine Kd.C_drew ?_))); (case side2 => exact HC153_3.out); rintro e w50 ⟨rfl, hb⟩; refine ⟨_, rfl, ?_⟩; have n0_ := Aside0.mk (Kd.R_below (by (with_reducible repeat (first | apply Kd.R_alloc | apply Kd.R_drewN | apply Kd.R_drew)); exact HO_4.out) hb); have n1_ := Aside0.mk (blk_below (g := gb144) (o := .cells #[.int .i64 a0_0, .string a0_1, .int .i64 a0_2, .slice (some ad153) l0_3.length c0_3] 24 (0, 0)) (by (with_reducible repeat (first | refine blk_drewN ?_ _ | refine blk_drew ?_ | refine blk_alloc ?_ _)); exact BK144.out) hb); have n2_ := Aside0.mk (below_step (by repeat (first | (with_reducible first | exact HB.out | apply below_alloc | apply pw_below_drewN | apply below_drew1 | refine below_set ?_ GE144.out) | exact HB.out)) hb); clear HO_4; clear BK144; clear HB; have HO_4 := n0_; have BK144 := n1_; have HB := n2_; clear n0_ n1_ n2_; (try clear hb); (try clear hb2); (try clear hk); (try clear hi); obtain ⟨Ao51, co51, eo51⟩ := Kd.R_slice HO_4.out; subst eo51; have p155 : 0 ≤ (x7_4 : Int) := of_decide_eq_true (by first | (with_reducible assumption) | assumption); have q155 : x7_4 < (t146.length : Int) := of_decide_eq_true (by first | (with_reducible assumption) | assumption); obtain ⟨ad155, e155, hx155_0⟩ := Kd.at_int (Kd.R_reads' HO_4.out).2.2 x7_4 p155 q155; cases e155; replace p155 := eq_true p155; replace q155 := eq_true q155))
                                go_roundg k4
                                case measure => have := HJ3.out; have := HJ27.out; have := HJ32.out; have := HK4.out; omega
                                case rel => exact ⟨(wrap64 (x7_4 + 1)), (by first | rfl | (simp; done) | (simp [*]; done)), H', ⟨by have := HJ3.out; have := HJ27.out; have := HJ32.out; have := HK4.out; omega⟩, ⟨by (with_reducible repeat (first | apply Kd.R_alloc | apply Kd.R_drewN | apply Kd.R_drew)); exact HO_4.out⟩, ⟨by (with_reducible repeat (first | refine blk_drewN ?_ _ | refine blk_drew ?_ | refine blk_alloc ?_ _)); exact BK144.out⟩, ⟨by repeat (first | (with_reducible first | exact HB.out | apply below_alloc | apply pw_below_drewN | apply below_drew1 | refine below_set ?_ GE144.out) | exact HB.out)⟩⟩
                              · rw [if_neg c48] at H
                                have c48b0 : (t154 == (rd t146 x7_4)) = false := beq_eq_false_iff_ne.mpr c48
                                have c48b1 : (t154 != (rd t146 x7_4)) = true := bne_iff_ne.mpr c48
                                obtain rfl := Option.some.inj H
                                have hcz52_0 : wr.cell? ⟨gb144, 0, none⟩ = some (.int .i64 a0_0) := (blk_cell BK144.out 0).trans rfl
                                have hcz52_1 : wr.cell? ⟨gb144, 1, none⟩ = some (.string a0_1) := (blk_cell BK144.out 1).trans rfl
                                have hcz52_2 : wr.cell? ⟨gb144, 2, none⟩ = some (.int .i64 a0_2) := (blk_cell BK144.out 2).trans rfl
                                have hcz52_3 : wr.cell? ⟨gb144, 3, none⟩ = some (.slice A0_3 l0_3.length c0_3) := (blk_cell BK144.out 3).trans rfl
                                have hfz52_0 := blk_frozen BK144.out 0
                                have hfz52_1 := blk_frozen BK144.out 1
                                have hfz52_2 := blk_frozen BK144.out 2
                                have hfz52_3 := blk_frozen BK144.out 3
                                have p153 : 0 ≤ (x7_4 : Int) := of_decide_eq_true (by first | (with_reducible assumption) | assumption)
                                have q153 : x7_4 < (l0_3.length : Int) := of_decide_eq_true (by first | (with_reducible assumption) | assumption)
                                obtain ⟨ad153, A153_3, c153_3, e153, hx153_0, hx153_1, hx153_2, hx153_3, hl153_3, hi153_3⟩ := at_T24 HR0_3.out x7_4 p153 q153
                                cases e153
                                replace hx153_0 := (HB.out.cell (World.block_lt_of_cell? w _ hx153_0)).trans hx153_0
                                replace hx153_1 := (HB.out.cell (World.block_lt_of_cell? w _ hx153_1)).trans hx153_1
                                replace hx153_2 := (HB.out.cell (World.block_lt_of_cell? w _ hx153_2)).trans hx153_2
                                replace hx153_3 := (HB.out.cell (World.block_lt_of_cell? w _ hx153_3)).trans hx153_3
                                have HR153_3 := Aside0.mk hi153_3
                                have HC153_3 := Aside0.mk hl153_3
                                clear hi153_3 hl153_3
                                replace p153 := eq_true p153
                                replace q153 := eq_true q153
                                go_wp2_with (first | ((with_reducible refine gate_callee (f := 34) rfl ?_); refine goesL_ (some 84) rfl rfl Tryd.func34 (by kernel_rfl) rfl #[.agg #[.int .i64 ((rd_T24 l0_3 x7_4).f0), .string ((rd_T24 l0_3 x7_4).f1), .int .i64 ((rd_T24 l0_3 x7_4).f2), .slice A153_3 ((rd_T24 l0_3 x7_4).f3).length c153_3]] rfl (by (try simp only [List.map_toArray, List.map_cons, List.map_nil]); first | done | rfl | (simp only [List.length_drop, List.length_take]; rfl)) ?_; (with_reducible refine (ih k4 (by have := HJ3.out; have := HJ27.out; have := HJ32.out; have := HK4.out; omega) ((rd_T24 l0_3 x7_4).f0) ((rd_T24 l0_3 x7_4).f1) ((rd_T24 l0_3 x7_4).f2) _ _ ((rd_T24 l0_3 x7_4).f3) t154 _ ?side1 ?side2 A40.out).mono ?_); (case side1 => repeat (first | exact (Kd.C_below HR153_3.out HB.out) | (with_reducible refine Kd.C_alloc ?_ _) | (with_reducible refine Kd.C_drewN ?_ _) | (with_reducible refine Kd.C_drew ?_))); (case side2 => exact HC153_3.out); rintro e w53 ⟨rfl, hb⟩; refine ⟨_, rfl, ?_⟩; have n0_ := Aside0.mk (Kd.R_below (by (with_reducible repeat (first | apply Kd.R_alloc | apply Kd.R_drewN | apply Kd.R_drew)); exact HO_4.out) hb); have n1_ := Aside0.mk (blk_below (g := gb144) (o := .cells #[.int .i64 a0_0, .string a0_1, .int .i64 a0_2, .slice (some ad153) l0_3.length c0_3] 24 (0, 0)) (by (with_reducible repeat (first | refine blk_drewN ?_ _ | refine blk_drew ?_ | refine blk_alloc ?_ _)); exact BK144.out) hb); have n2_ := Aside0.mk (below_step (by repeat (first | (with_reducible first | exact HB.out | apply below_alloc | apply pw_below_drewN | apply below_drew1 | refine below_set ?_ GE144.out) | exact HB.out)) hb); clear HO_4; clear BK144; clear HB; have HO_4 := n0_; have BK144 := n1_; have HB := n2_; clear n0_ n1_ n2_; (try clear hb); (try clear hb2); (try clear hk); (try clear hi); obtain ⟨Ao54, co54, eo54⟩ := Kd.R_slice HO_4.out; subst eo54; have p155 : 0 ≤ (x7_4 : Int) := of_decide_eq_true (by first | (with_reducible assumption) | assumption); have q155 : x7_4 < (t146.length : Int) := of_decide_eq_true (by first | (with_reducible assumption) | assumption); obtain ⟨ad155, e155, hx155_0⟩ := Kd.at_int (Kd.R_reads' HO_4.out).2.2 x7_4 p155 q155; cases e155; replace p155 := eq_true p155; replace q155 := eq_true q155))
                                go_ret
                                exact ⟨by first | rfl | (simp [errW_none, errW_some] <;> rfl) | (simp [*, errW_none, errW_some] <;> rfl), by repeat (first | (with_reducible first | exact HB.out | apply below_alloc | apply pw_below_drewN | apply below_drew1 | refine below_set ?_ GE144.out) | exact HB.out)⟩
                            · rw [if_neg c47] at H
                              exact absurd H (by simp)
                        · rw [if_neg c39] at H
                          exact absurd H (by simp)
                      · rw [if_neg c38] at H
                        have c38b0 : decide (x7_4 < (l0_3.length : Int)) = false := decide_eq_false c38
                        clear c38
                        obtain rfl := Option.some.inj H
                        have hcz55_0 : wr.cell? ⟨gb144, 0, none⟩ = some (.int .i64 a0_0) := (blk_cell BK144.out 0).trans rfl
                        have hcz55_1 : wr.cell? ⟨gb144, 1, none⟩ = some (.string a0_1) := (blk_cell BK144.out 1).trans rfl
                        have hcz55_2 : wr.cell? ⟨gb144, 2, none⟩ = some (.int .i64 a0_2) := (blk_cell BK144.out 2).trans rfl
                        have hcz55_3 : wr.cell? ⟨gb144, 3, none⟩ = some (.slice A0_3 l0_3.length c0_3) := (blk_cell BK144.out 3).trans rfl
                        have hfz55_0 := blk_frozen BK144.out 0
                        have hfz55_1 := blk_frozen BK144.out 1
                        have hfz55_2 := blk_frozen BK144.out 2
                        have hfz55_3 := blk_frozen BK144.out 3
                        go_wp2
                        go_ret
                        exact ⟨by first | rfl | (simp [errW_none, errW_some] <;> rfl) | (simp [*, errW_none, errW_some] <;> rfl), by repeat (first | (with_reducible first | exact HB.out | apply below_alloc | apply pw_below_drewN | apply below_drew1 | refine below_set ?_ GE144.out) | exact HB.out)⟩

/-! ### ashlarref03_Sort: function 17 -/
def ashlarref03_Sort.j0 : Nat → Bool → Int → ByteArray → Int → List (S24) → Option (Int × Int)
  | 0, _, _, _, _, _ => none
  | k + 1, x12, x157000, x157001, x157002, x157003 => if x12 = true then (some (0, 7)) else ((ashlarref03_sorted.f k x157000 x157001 x157002 x157003).bind fun t159 => (if t159 = 0 then (some (0, 3)) else (some (t159, 0))))
def ashlarref03_Sort.f (k : Nat) (a0_0 : Int) (a0_1 : ByteArray) (a0_2 : Int) (l0_3 : List (S24)) : Option (Int × Int) := (ashlarref03_Size.f k a0_0 a0_1 a0_2 l0_3).bind fun t157 => (if t157 > 2000 then (ashlarref03_Sort.j0 k true a0_0 a0_1 a0_2 l0_3) else ((ashlarref03_Deep.f k a0_0 a0_1 a0_2 l0_3).bind fun t158 => (ashlarref03_Sort.j0 k (decide (t158 > 100)) a0_0 a0_1 a0_2 l0_3)))
theorem ashlarref03_Sort.mono_l : ∀ k, (∀ y0 y1 y2 y3 y4, LeO (ashlarref03_Sort.j0 k y0 y1 y2 y3 y4) (ashlarref03_Sort.j0 (k + 1) y0 y1 y2 y3 y4))
  | 0 => fun _ _ _ _ _ r h => by simp [ashlarref03_Sort.j0] at h
  | k + 1 => by
    have ih0 := ashlarref03_Sort.mono_l k
    · intro y0 y1 y2 y3 y4
      unfold ashlarref03_Sort.j0
      repeat' first
      | (with_reducible exact ih0 _ _ _ _ _)
      | (with_reducible exact ashlarref03_Deep.mono _ _ _ _ _)
      | (with_reducible exact ashlarref03_Size.mono _ _ _ _ _)
      | (with_reducible exact ashlarref03_sorted.mono _ _ _ _ _)
      | (with_reducible exact LeO.refl _)
      | (with_reducible exact LeO.none _)
      | (with_reducible refine LeO.ite ?_ ?_)
      | (with_reducible refine LeO.bind ?_ (fun _ => ?_))
      | exact ih0 _ _ _ _ _
      | exact ashlarref03_Deep.mono _ _ _ _ _
      | exact ashlarref03_Size.mono _ _ _ _ _
      | exact ashlarref03_sorted.mono _ _ _ _ _
      | exact LeO.none _
      | refine LeO.ite ?_ ?_
      | refine LeO.bind ?_ (fun _ => ?_)
theorem ashlarref03_Sort.mono : ∀ a0 a1 a2 a3 k, LeO (ashlarref03_Sort.f k a0 a1 a2 a3) (ashlarref03_Sort.f (k + 1) a0 a1 a2 a3) := by
  intro a0 a1 a2 a3 k
  have ih0 := ashlarref03_Sort.mono_l k
  unfold ashlarref03_Sort.f
  repeat' first
      | (with_reducible exact ih0 _ _ _ _ _)
      | (with_reducible exact ashlarref03_Deep.mono _ _ _ _ _)
      | (with_reducible exact ashlarref03_Size.mono _ _ _ _ _)
      | (with_reducible exact ashlarref03_sorted.mono _ _ _ _ _)
      | (with_reducible exact LeO.refl _)
      | (with_reducible exact LeO.none _)
      | (with_reducible refine LeO.ite ?_ ?_)
      | (with_reducible refine LeO.bind ?_ (fun _ => ?_))
      | exact ih0 _ _ _ _ _
      | exact ashlarref03_Deep.mono _ _ _ _ _
      | exact ashlarref03_Size.mono _ _ _ _ _
      | exact ashlarref03_sorted.mono _ _ _ _ _
      | exact LeO.none _
      | refine LeO.ite ?_ ?_
      | refine LeO.bind ?_ (fun _ => ?_)
set_option maxHeartbeats 8000000 in
set_option maxRecDepth 100000 in
theorem ashlarref03_Sort.calls (k : Nat) (a0_0 : Int) (a0_1 : ByteArray) (a0_2 : Int) (A0_3 : Option Addr) (c0_3 : Nat) (l0_3 : List (S24)) (r1 : Int) (r2 : Int) (w : World) (hr0_3 : Kd.C k24 w A0_3 l0_3.length l0_3) (hc0_3 : l0_3.length ≤ c0_3) (h : ashlarref03_Sort.f k a0_0 a0_1 a0_2 l0_3 = some (r1, r2)) :
    Calls Tryd.prog 17 #[.agg #[.int .i64 a0_0, .string a0_1, .int .i64 a0_2, .slice A0_3 l0_3.length c0_3]] w fun e w' => e = .returned (.tuple #[.int .i64 r1, .int .i64 r2]) ∧ Below w.heap.size w w' := by
  have hu24 := Tryd.underlying24
  have HR0_3 := Aside0.mk hr0_3
  have HC0_3 := Aside0.mk hc0_3
  clear hr0_3 hc0_3
  have HB := Aside0.mk (Below.refl w.heap.size w)
  have H : ((ashlarref03_Size.f k a0_0 a0_1 a0_2 l0_3).bind fun t157 => (if t157 > 2000 then (ashlarref03_Sort.j0 k true a0_0 a0_1 a0_2 l0_3) else ((ashlarref03_Deep.f k a0_0 a0_1 a0_2 l0_3).bind fun t158 => (ashlarref03_Sort.j0 k (decide (t158 > 100)) a0_0 a0_1 a0_2 l0_3)))) = some (r1, r2) := h
  clear h
  have HC2 := Aside0.mk H
  clear H
  go_enter Tryd.func17, Tryd.ntmps17
  go_upto_region 1 with (first | ((with_reducible refine gate_dst (N := 1) rfl ?_); refine box_event ?hg (N := 1) ?hd (cs := #[.int .i64 a0_0, .string a0_1, .int .i64 a0_2, .slice A0_3 l0_3.length c0_3]) (t := 24) ?hr ?_; (case hd => rfl); (case hg => rfl); (case hr => first | (go_simp; done) | (go_simp; rfl)); intro gb156 hg w3 hbox hb; have n0_ := Aside0.mk (below_step (by repeat (first | (with_reducible first | exact HB.out | apply below_alloc | apply pw_below_drewN | apply below_drew1) | exact HB.out)) hb); have n1_ := Aside0.mk (hbox); have n2_ := Aside0.mk ((by rw [hg]; exact (below_size (by repeat (first | (with_reducible first | exact HB.out | apply below_alloc | apply pw_below_drewN | apply below_drew1) | exact HB.out))) : w.heap.size ≤ gb156)); have n3_ := Aside0.mk ((by rw [hg]; exact (below_size (by repeat (first | (with_reducible first | exact HB.out | apply below_alloc | apply pw_below_drewN | apply below_drew1) | exact HB.out))) : w.heap.size ≤ gb156)); clear HB; have HB := n0_; have BK156 := n1_; have GW156 := n2_; have GE156 := n3_; clear n0_ n1_ n2_ n3_; clear hb hbox hg))
  (try simp only [Act.put, List.setIfInBounds_toArray, List.set_cons_zero, List.set_cons_succ])
  go_cut [12] (fun v12 wc => ∃ (kq : Nat) (x12_1 : Bool), v12 = .bool x12_1 ∧ Aside0 (ashlarref03_Sort.j0 kq x12_1 a0_0 a0_1 a0_2 l0_3 = some (r1, r2)) ∧ Aside0 (kq ≤ k) ∧ Aside0 (wc.heap[gb156]? = some (.cells #[.int .i64 a0_0, .string a0_1, .int .i64 a0_2, (.slice A0_3 l0_3.length c0_3)] 24 (0, 0))) ∧ Aside0 (Below w.heap.size w wc))
  case first =>
    have H := HC2.out
    clear HC2
    replace H := Option.bind_eq_some_iff.mp H
    obtain ⟨t157, A40, H⟩ := H
    replace H : (if t157 > 2000 then (ashlarref03_Sort.j0 k true a0_0 a0_1 a0_2 l0_3) else ((ashlarref03_Deep.f k a0_0 a0_1 a0_2 l0_3).bind fun t158 => (ashlarref03_Sort.j0 k (decide (t158 > 100)) a0_0 a0_1 a0_2 l0_3))) = some (r1, r2) := H
    have A4 := Aside0.mk A40
    clear A40
    by_cases c5 : t157 > 2000
    · rw [if_pos c5] at H
      have c5b0 : decide (2000 < t157) = true := decide_eq_true c5
      clear c5
      (first | rw [c5b0] | (simp only [i64_w, i32_w]; rw [c5b0]) | skip)
      have H' := Aside0.mk H
      clear H
      have hcz6_0 : w3.cell? ⟨gb156, 0, none⟩ = some (.int .i64 a0_0) := (blk_cell BK156.out 0).trans rfl
      have hcz6_1 : w3.cell? ⟨gb156, 1, none⟩ = some (.string a0_1) := (blk_cell BK156.out 1).trans rfl
      have hcz6_2 : w3.cell? ⟨gb156, 2, none⟩ = some (.int .i64 a0_2) := (blk_cell BK156.out 2).trans rfl
      have hcz6_3 : w3.cell? ⟨gb156, 3, none⟩ = some (.slice A0_3 l0_3.length c0_3) := (blk_cell BK156.out 3).trans rfl
      have hfz6_0 := blk_frozen BK156.out 0
      have hfz6_1 := blk_frozen BK156.out 1
      have hfz6_2 := blk_frozen BK156.out 2
      have hfz6_3 := blk_frozen BK156.out 3
      go_wp2_with (first | ((with_reducible refine gate_callee (f := 19) rfl ?_); refine goesL_ (some 6) rfl rfl Tryd.func19 (by kernel_rfl) rfl #[.agg #[.int .i64 a0_0, .string a0_1, .int .i64 a0_2, .slice A0_3 l0_3.length c0_3]] rfl (by (try simp only [List.map_toArray, List.map_cons, List.map_nil]); first | done | rfl | (simp only [List.length_drop, List.length_take]; rfl)) ?_; (with_reducible refine (ashlarref03_Size.calls k a0_0 a0_1 a0_2 _ _ l0_3 t157 _ ?side1 ?side2 A4.out).mono ?_); (case side1 => repeat (first | exact (Kd.C_below HR0_3.out HB.out) | (with_reducible refine Kd.C_alloc ?_ _) | (with_reducible refine Kd.C_drewN ?_ _) | (with_reducible refine Kd.C_drew ?_))); (case side2 => exact HC0_3.out); rintro e w7 ⟨rfl, hb⟩; refine ⟨_, rfl, ?_⟩; have n0_ := Aside0.mk (blk_below (g := gb156) (o := .cells #[.int .i64 a0_0, .string a0_1, .int .i64 a0_2, .slice A0_3 l0_3.length c0_3] 24 (0, 0)) (by (with_reducible repeat (first | refine blk_drewN ?_ _ | refine blk_drew ?_ | refine blk_alloc ?_ _)); exact BK156.out) hb); have n1_ := Aside0.mk (below_step (by repeat (first | (with_reducible first | exact HB.out | apply below_alloc | apply pw_below_drewN | apply below_drew1 | refine below_set ?_ GE156.out) | exact HB.out)) hb); clear BK156; clear HB; have BK156 := n0_; have HB := n1_; clear n0_ n1_; (try clear hb); (try clear hb2); (try clear hk); (try clear hi)))
      go_meet
      case rel => exact ⟨_, (true), (by first | rfl | (simp; done) | (simp [*]; done)), H', ⟨by first | omega | exact Nat.le_refl _⟩, ⟨by (with_reducible repeat (first | refine blk_drewN ?_ _ | refine blk_drew ?_ | refine blk_alloc ?_ _)); exact BK156.out⟩, ⟨by repeat (first | (with_reducible first | exact HB.out | apply below_alloc | apply pw_below_drewN | apply below_drew1 | refine below_set ?_ GE156.out) | exact HB.out)⟩⟩
    · rw [if_neg c5] at H
      have c5b0 : decide (2000 < t157) = false := decide_eq_false c5
      clear c5
      (first | rw [c5b0] | (simp only [i64_w, i32_w]; rw [c5b0]) | skip)
      replace H := Option.bind_eq_some_iff.mp H
      obtain ⟨t158, A80, H⟩ := H
      replace H : (ashlarref03_Sort.j0 k (decide (t158 > 100)) a0_0 a0_1 a0_2 l0_3) = some (r1, r2) := H
      have A8 := Aside0.mk A80
      clear A80
      have H' := Aside0.mk H
      clear H
      have hcz9_0 : w3.cell? ⟨gb156, 0, none⟩ = some (.int .i64 a0_0) := (blk_cell BK156.out 0).trans rfl
      have hcz9_1 : w3.cell? ⟨gb156, 1, none⟩ = some (.string a0_1) := (blk_cell BK156.out 1).trans rfl
      have hcz9_2 : w3.cell? ⟨gb156, 2, none⟩ = some (.int .i64 a0_2) := (blk_cell BK156.out 2).trans rfl
      have hcz9_3 : w3.cell? ⟨gb156, 3, none⟩ = some (.slice A0_3 l0_3.length c0_3) := (blk_cell BK156.out 3).trans rfl
      have hfz9_0 := blk_frozen BK156.out 0
      have hfz9_1 := blk_frozen BK156.out 1
      have hfz9_2 := blk_frozen BK156.out 2
      have hfz9_3 := blk_frozen BK156.out 3
      go_wp2_with (first | ((with_reducible refine gate_callee (f := 19) rfl ?_); refine goesL_ (some 6) rfl rfl Tryd.func19 (by kernel_rfl) rfl #[.agg #[.int .i64 a0_0, .string a0_1, .int .i64 a0_2, .slice A0_3 l0_3.length c0_3]] rfl (by (try simp only [List.map_toArray, List.map_cons, List.map_nil]); first | done | rfl | (simp only [List.length_drop, List.length_take]; rfl)) ?_; (with_reducible refine (ashlarref03_Size.calls k a0_0 a0_1 a0_2 _ _ l0_3 t157 _ ?side1 ?side2 A4.out).mono ?_); (case side1 => repeat (first | exact (Kd.C_below HR0_3.out HB.out) | (with_reducible refine Kd.C_alloc ?_ _) | (with_reducible refine Kd.C_drewN ?_ _) | (with_reducible refine Kd.C_drew ?_))); (case side2 => exact HC0_3.out); rintro e w10 ⟨rfl, hb⟩; refine ⟨_, rfl, ?_⟩; have n0_ := Aside0.mk (blk_below (g := gb156) (o := .cells #[.int .i64 a0_0, .string a0_1, .int .i64 a0_2, .slice A0_3 l0_3.length c0_3] 24 (0, 0)) (by (with_reducible repeat (first | refine blk_drewN ?_ _ | refine blk_drew ?_ | refine blk_alloc ?_ _)); exact BK156.out) hb); have n1_ := Aside0.mk (below_step (by repeat (first | (with_reducible first | exact HB.out | apply below_alloc | apply pw_below_drewN | apply below_drew1 | refine below_set ?_ GE156.out) | exact HB.out)) hb); clear BK156; clear HB; have BK156 := n0_; have HB := n1_; clear n0_ n1_; (try clear hb); (try clear hb2); (try clear hk); (try clear hi); have hcz11_0 : w10.cell? ⟨gb156, 0, none⟩ = some (.int .i64 a0_0) := (blk_cell BK156.out 0).trans rfl; have hcz11_1 : w10.cell? ⟨gb156, 1, none⟩ = some (.string a0_1) := (blk_cell BK156.out 1).trans rfl; have hcz11_2 : w10.cell? ⟨gb156, 2, none⟩ = some (.int .i64 a0_2) := (blk_cell BK156.out 2).trans rfl; have hcz11_3 : w10.cell? ⟨gb156, 3, none⟩ = some (.slice A0_3 l0_3.length c0_3) := (blk_cell BK156.out 3).trans rfl; have hfz11_0 := blk_frozen BK156.out 0; have hfz11_1 := blk_frozen BK156.out 1; have hfz11_2 := blk_frozen BK156.out 2; have hfz11_3 := blk_frozen BK156.out 3) | (go_at_call 20; (with_reducible refine (ashlarref03_Deep.calls k a0_0 a0_1 a0_2 _ _ l0_3 t158 _ ?side1 ?side2 A8.out).mono ?_); (case side1 => repeat (first | exact (Kd.C_below HR0_3.out HB.out) | (with_reducible refine Kd.C_alloc ?_ _) | (with_reducible refine Kd.C_drewN ?_ _) | (with_reducible refine Kd.C_drew ?_))); (case side2 => exact HC0_3.out); rintro e w12 ⟨rfl, hb⟩; have n0_ := Aside0.mk (blk_below (g := gb156) (o := .cells #[.int .i64 a0_0, .string a0_1, .int .i64 a0_2, .slice A0_3 l0_3.length c0_3] 24 (0, 0)) (by (with_reducible repeat (first | refine blk_drewN ?_ _ | refine blk_drew ?_ | refine blk_alloc ?_ _)); exact BK156.out) hb); have n1_ := Aside0.mk (below_step (by repeat (first | (with_reducible first | exact HB.out | apply below_alloc | apply pw_below_drewN | apply below_drew1 | refine below_set ?_ GE156.out) | exact HB.out)) hb); clear BK156; clear HB; have BK156 := n0_; have HB := n1_; clear n0_ n1_; (try clear hb); (try clear hb2); (try clear hk); (try clear hi)))
      go_meet
      case rel => exact ⟨_, (decide (t158 > 100)), (by first | rfl | (simp; done) | (simp [*]; done)), H', ⟨by first | omega | exact Nat.le_refl _⟩, ⟨by (with_reducible repeat (first | refine blk_drewN ?_ _ | refine blk_drew ?_ | refine blk_alloc ?_ _)); exact BK156.out⟩, ⟨by repeat (first | (with_reducible first | exact HB.out | apply below_alloc | apply pw_below_drewN | apply below_drew1 | refine below_set ?_ GE156.out) | exact HB.out)⟩⟩
  case rest =>
    clear HC2
    try clear c1
    try clear p2
    try clear c5
    try clear c5b0
    try clear hcz11_0
    try clear hcz11_1
    try clear hcz11_2
    try clear hcz11_3
    try clear hcz6_0
    try clear hcz6_1
    try clear hcz6_2
    try clear hcz6_3
    try clear hcz9_0
    try clear hcz9_1
    try clear hcz9_2
    try clear hcz9_3
    try clear hfz11_0
    try clear hfz11_1
    try clear hfz11_2
    try clear hfz11_3
    try clear hfz6_0
    try clear hfz6_1
    try clear hfz6_2
    try clear hfz6_3
    try clear hfz9_0
    try clear hfz9_1
    try clear hfz9_2
    try clear hfz9_3
    obtain ⟨kq, x12_1, rfl, HA, HJ1, BK156, HB⟩ := hcut
    cases kq with
    | zero => exact absurd HA.out (by simp [ashlarref03_Sort.j0])
    | succ kj1 =>
      have H := HA.out
      clear HA
      simp only [ashlarref03_Sort.j0] at H
      by_cases c13 : x12_1 = true
      · subst c13
        have H1 : (some (0, 7)) = some (r1, r2) := by rw [if_pos rfl] at H; exact H
        clear H
        have H := H1
        clear H1
        simp only [Option.some.injEq, Prod.mk.injEq] at H
        obtain ⟨rfl, rfl⟩ := H
        go_wp2
        go_ret2
        exact ⟨by first | rfl | (simp [errW_none, errW_some] <;> rfl) | (simp [*, errW_none, errW_some] <;> rfl), by repeat (first | (with_reducible first | exact HB.out | apply below_alloc | apply pw_below_drewN | apply below_drew1 | refine below_set ?_ GE156.out) | exact HB.out)⟩
      · replace c13 := Bool.eq_false_iff.mpr c13
        subst c13
        have H1 : ((ashlarref03_sorted.f kj1 a0_0 a0_1 a0_2 l0_3).bind fun t159 => (if t159 = 0 then (some (0, 3)) else (some (t159, 0)))) = some (r1, r2) := by rw [if_neg (show ¬ (false = true) by decide)] at H; exact H
        clear H
        have H := H1
        clear H1
        replace H := Option.bind_eq_some_iff.mp H
        obtain ⟨t159, A140, H⟩ := H
        replace H : (if t159 = 0 then (some (0, 3)) else (some (t159, 0))) = some (r1, r2) := H
        have A14 := Aside0.mk A140
        clear A140
        by_cases c15 : t159 = 0
        · rw [if_pos c15] at H
          have c15b0 : (t159 == 0) = true := beq_iff_eq.mpr c15
          have c15b1 : (t159 != 0) = false := bne_eq_false_iff_eq.mpr c15
          clear c15
          simp only [Option.some.injEq, Prod.mk.injEq] at H
          obtain ⟨rfl, rfl⟩ := H
          have hcz16_0 : wc.cell? ⟨gb156, 0, none⟩ = some (.int .i64 a0_0) := (blk_cell BK156.out 0).trans rfl
          have hcz16_1 : wc.cell? ⟨gb156, 1, none⟩ = some (.string a0_1) := (blk_cell BK156.out 1).trans rfl
          have hcz16_2 : wc.cell? ⟨gb156, 2, none⟩ = some (.int .i64 a0_2) := (blk_cell BK156.out 2).trans rfl
          have hcz16_3 : wc.cell? ⟨gb156, 3, none⟩ = some (.slice A0_3 l0_3.length c0_3) := (blk_cell BK156.out 3).trans rfl
          have hfz16_0 := blk_frozen BK156.out 0
          have hfz16_1 := blk_frozen BK156.out 1
          have hfz16_2 := blk_frozen BK156.out 2
          have hfz16_3 := blk_frozen BK156.out 3
          go_wp2_with (first | ((with_reducible refine gate_callee (f := 34) rfl ?_); refine goesL_ (some 14) rfl rfl Tryd.func34 (by kernel_rfl) rfl #[.agg #[.int .i64 a0_0, .string a0_1, .int .i64 a0_2, .slice A0_3 l0_3.length c0_3]] rfl (by (try simp only [List.map_toArray, List.map_cons, List.map_nil]); first | done | rfl | (simp only [List.length_drop, List.length_take]; rfl)) ?_; (with_reducible refine (ashlarref03_sorted.calls kj1 a0_0 a0_1 a0_2 _ _ l0_3 t159 _ ?side1 ?side2 A14.out).mono ?_); (case side1 => repeat (first | exact (Kd.C_below HR0_3.out HB.out) | (with_reducible refine Kd.C_alloc ?_ _) | (with_reducible refine Kd.C_drewN ?_ _) | (with_reducible refine Kd.C_drew ?_))); (case side2 => exact HC0_3.out); rintro e w17 ⟨rfl, hb⟩; refine ⟨_, rfl, ?_⟩; have n0_ := Aside0.mk (blk_below (g := gb156) (o := .cells #[.int .i64 a0_0, .string a0_1, .int .i64 a0_2, .slice A0_3 l0_3.length c0_3] 24 (0, 0)) (by (with_reducible repeat (first | refine blk_drewN ?_ _ | refine blk_drew ?_ | refine blk_alloc ?_ _)); exact BK156.out) hb); have n1_ := Aside0.mk (below_step (by repeat (first | (with_reducible first | exact HB.out | apply below_alloc | apply pw_below_drewN | apply below_drew1 | refine below_set ?_ GE156.out) | exact HB.out)) hb); clear BK156; clear HB; have BK156 := n0_; have HB := n1_; clear n0_ n1_; (try clear hb); (try clear hb2); (try clear hk); (try clear hi)))
          go_ret2
          exact ⟨by first | rfl | (simp [errW_none, errW_some] <;> rfl) | (simp [*, errW_none, errW_some] <;> rfl), by repeat (first | (with_reducible first | exact HB.out | apply below_alloc | apply pw_below_drewN | apply below_drew1 | refine below_set ?_ GE156.out) | exact HB.out)⟩
        · rw [if_neg c15] at H
          have c15b0 : (t159 == 0) = false := beq_eq_false_iff_ne.mpr c15
          have c15b1 : (t159 != 0) = true := bne_iff_ne.mpr c15
          simp only [Option.some.injEq, Prod.mk.injEq] at H
          obtain ⟨rfl, rfl⟩ := H
          have hcz18_0 : wc.cell? ⟨gb156, 0, none⟩ = some (.int .i64 a0_0) := (blk_cell BK156.out 0).trans rfl
          have hcz18_1 : wc.cell? ⟨gb156, 1, none⟩ = some (.string a0_1) := (blk_cell BK156.out 1).trans rfl
          have hcz18_2 : wc.cell? ⟨gb156, 2, none⟩ = some (.int .i64 a0_2) := (blk_cell BK156.out 2).trans rfl
          have hcz18_3 : wc.cell? ⟨gb156, 3, none⟩ = some (.slice A0_3 l0_3.length c0_3) := (blk_cell BK156.out 3).trans rfl
          have hfz18_0 := blk_frozen BK156.out 0
          have hfz18_1 := blk_frozen BK156.out 1
          have hfz18_2 := blk_frozen BK156.out 2
          have hfz18_3 := blk_frozen BK156.out 3
          go_wp2_with (first | ((with_reducible refine gate_callee (f := 34) rfl ?_); refine goesL_ (some 14) rfl rfl Tryd.func34 (by kernel_rfl) rfl #[.agg #[.int .i64 a0_0, .string a0_1, .int .i64 a0_2, .slice A0_3 l0_3.length c0_3]] rfl (by (try simp only [List.map_toArray, List.map_cons, List.map_nil]); first | done | rfl | (simp only [List.length_drop, List.length_take]; rfl)) ?_; (with_reducible refine (ashlarref03_sorted.calls kj1 a0_0 a0_1 a0_2 _ _ l0_3 t159 _ ?side1 ?side2 A14.out).mono ?_); (case side1 => repeat (first | exact (Kd.C_below HR0_3.out HB.out) | (with_reducible refine Kd.C_alloc ?_ _) | (with_reducible refine Kd.C_drewN ?_ _) | (with_reducible refine Kd.C_drew ?_))); (case side2 => exact HC0_3.out); rintro e w19 ⟨rfl, hb⟩; refine ⟨_, rfl, ?_⟩; have n0_ := Aside0.mk (blk_below (g := gb156) (o := .cells #[.int .i64 a0_0, .string a0_1, .int .i64 a0_2, .slice A0_3 l0_3.length c0_3] 24 (0, 0)) (by (with_reducible repeat (first | refine blk_drewN ?_ _ | refine blk_drew ?_ | refine blk_alloc ?_ _)); exact BK156.out) hb); have n1_ := Aside0.mk (below_step (by repeat (first | (with_reducible first | exact HB.out | apply below_alloc | apply pw_below_drewN | apply below_drew1 | refine below_set ?_ GE156.out) | exact HB.out)) hb); clear BK156; clear HB; have BK156 := n0_; have HB := n1_; clear n0_ n1_; (try clear hb); (try clear hb2); (try clear hk); (try clear hi)))
          go_ret2
          exact ⟨by first | rfl | (simp [errW_none, errW_some] <;> rfl) | (simp [*, errW_none, errW_some] <;> rfl), by repeat (first | (with_reducible first | exact HB.out | apply below_alloc | apply pw_below_drewN | apply below_drew1 | refine below_set ?_ GE156.out) | exact HB.out)⟩

/-! ### ashlarref07_Find: function 18 -/
def ashlarref07_Find.l0 : Nat → List (S24) → Int → Int → ByteArray → Int → List (S24) → Option (Int)
  | 0, _, _, _, _, _, _ => none
  | k + 1, x0, x5, x161000, x161001, x161002, x161003 => if x5 < (x0.length : Int) then (if 0 ≤ x5 then ((ashlarref03_Same.f k ((rd_T24 x0 x5).f0) ((rd_T24 x0 x5).f1) ((rd_T24 x0 x5).f2) ((rd_T24 x0 x5).f3) x161000 x161001 x161002 x161003).bind fun t162 => (if t162 = true then (some x5) else (ashlarref07_Find.l0 k x0 (wrap64 (x5 + 1)) x161000 x161001 x161002 x161003))) else (none)) else (some (-1))
def ashlarref07_Find.f (k : Nat) (l0 : List (S24)) (a1_0 : Int) (a1_1 : ByteArray) (a1_2 : Int) (l1_3 : List (S24)) : Option (Int) := ashlarref07_Find.l0 k l0 0 a1_0 a1_1 a1_2 l1_3
theorem ashlarref07_Find.mono_l : ∀ k, (∀ y0 y1 y2 y3 y4 y5, LeO (ashlarref07_Find.l0 k y0 y1 y2 y3 y4 y5) (ashlarref07_Find.l0 (k + 1) y0 y1 y2 y3 y4 y5))
  | 0 => fun _ _ _ _ _ _ r h => by simp [ashlarref07_Find.l0] at h
  | k + 1 => by
    have ih0 := ashlarref07_Find.mono_l k
    · intro y0 y1 y2 y3 y4 y5
      unfold ashlarref07_Find.l0
      repeat' first
      | (with_reducible exact ih0 _ _ _ _ _ _)
      | (with_reducible exact ashlarref03_Same.mono _ _ _ _ _ _ _ _ _)
      | (with_reducible exact LeO.refl _)
      | (with_reducible exact LeO.none _)
      | (with_reducible refine LeO.ite ?_ ?_)
      | (with_reducible refine LeO.bind ?_ (fun _ => ?_))
      | exact ih0 _ _ _ _ _ _
      | exact ashlarref03_Same.mono _ _ _ _ _ _ _ _ _
      | exact LeO.none _
      | refine LeO.ite ?_ ?_
      | refine LeO.bind ?_ (fun _ => ?_)
theorem ashlarref07_Find.mono : ∀ a0 a1 a2 a3 a4 k, LeO (ashlarref07_Find.f k a0 a1 a2 a3 a4) (ashlarref07_Find.f (k + 1) a0 a1 a2 a3 a4) := by
  intro a0 a1 a2 a3 a4 k
  have ih0 := ashlarref07_Find.mono_l k
  unfold ashlarref07_Find.f
  repeat' first
      | (with_reducible exact ih0 _ _ _ _ _ _)
      | (with_reducible exact ashlarref03_Same.mono _ _ _ _ _ _ _ _ _)
      | (with_reducible exact LeO.refl _)
      | (with_reducible exact LeO.none _)
      | (with_reducible refine LeO.ite ?_ ?_)
      | (with_reducible refine LeO.bind ?_ (fun _ => ?_))
      | exact ih0 _ _ _ _ _ _
      | exact ashlarref03_Same.mono _ _ _ _ _ _ _ _ _
      | exact LeO.none _
      | refine LeO.ite ?_ ?_
      | refine LeO.bind ?_ (fun _ => ?_)
set_option maxHeartbeats 8000000 in
set_option maxRecDepth 100000 in
theorem ashlarref07_Find.calls (k : Nat) (A0 : Option Addr) (c0 : Nat) (l0 : List (S24)) (a1_0 : Int) (a1_1 : ByteArray) (a1_2 : Int) (A1_3 : Option Addr) (c1_3 : Nat) (l1_3 : List (S24)) (r : Int) (w : World) (hr0 : Kd.C k24 w A0 l0.length l0) (hc0 : l0.length ≤ c0) (hr1_3 : Kd.C k24 w A1_3 l1_3.length l1_3) (hc1_3 : l1_3.length ≤ c1_3) (h : ashlarref07_Find.f k l0 a1_0 a1_1 a1_2 l1_3 = some r) :
    Calls Tryd.prog 18 #[.slice A0 l0.length c0, .agg #[.int .i64 a1_0, .string a1_1, .int .i64 a1_2, .slice A1_3 l1_3.length c1_3]] w fun e w' => e = .returned (.int .i64 r) ∧ Below w.heap.size w w' := by
  have hu24 := Tryd.underlying24
  have HR0 := Aside0.mk hr0
  have HC0 := Aside0.mk hc0
  clear hr0 hc0
  have HR1_3 := Aside0.mk hr1_3
  have HC1_3 := Aside0.mk hc1_3
  clear hr1_3 hc1_3
  have HB := Aside0.mk (Below.refl w.heap.size w)
  have H : (ashlarref07_Find.l0 k l0 0 a1_0 a1_1 a1_2 l1_3) = some r := h
  clear h
  have H' := Aside0.mk H
  clear H
  go_enter Tryd.func18, Tryd.ntmps18
  go_wp2_with (first | ((with_reducible refine gate_dst (N := 3) rfl ?_); refine box_event ?hg (N := 3) ?hd (cs := #[.int .i64 a1_0, .string a1_1, .int .i64 a1_2, .slice A1_3 l1_3.length c1_3]) (t := 24) ?hr ?_; (case hd => rfl); (case hg => rfl); (case hr => first | (go_simp; done) | (go_simp; rfl)); intro gb160 hg w3 hbox hb; have n0_ := Aside0.mk (below_step (by repeat (first | (with_reducible first | exact HB.out | apply below_alloc | apply pw_below_drewN | apply below_drew1) | exact HB.out)) hb); have n1_ := Aside0.mk (hbox); have n2_ := Aside0.mk ((by rw [hg]; exact (below_size (by repeat (first | (with_reducible first | exact HB.out | apply below_alloc | apply pw_below_drewN | apply below_drew1) | exact HB.out))) : w.heap.size ≤ gb160)); have n3_ := Aside0.mk ((by rw [hg]; exact (below_size (by repeat (first | (with_reducible first | exact HB.out | apply below_alloc | apply pw_below_drewN | apply below_drew1) | exact HB.out))) : w.heap.size ≤ gb160)); clear HB; have HB := n0_; have BK160 := n1_; have GW160 := n2_; have GE160 := n3_; clear n0_ n1_ n2_ n3_; clear hb hbox hg))
  go_loopg [5] k (fun kq v5 w' => ∃ (x5_1 : Int), v5 = .int .i64 x5_1 ∧ Aside0 (ashlarref07_Find.l0 kq l0 x5_1 a1_0 a1_1 a1_2 l1_3 = some r) ∧ Aside0 (kq ≤ k) ∧ Aside0 (w'.heap[gb160]? = some (.cells #[.int .i64 a1_0, .string a1_1, .int .i64 a1_2, (.slice A1_3 l1_3.length c1_3)] 24 (0, 0))) ∧ Aside0 (Below w.heap.size w w'))
  case atStart => exact ⟨(0), (by first | rfl | (simp; done) | (simp [*]; done)), H', ⟨Nat.le_refl _⟩, ⟨by (with_reducible repeat (first | refine blk_drewN ?_ _ | refine blk_drew ?_ | refine blk_alloc ?_ _)); exact BK160.out⟩, ⟨by repeat (first | (with_reducible first | exact HB.out | apply below_alloc | apply pw_below_drewN | apply below_drew1 | refine below_set ?_ GE160.out) | exact HB.out)⟩⟩
  case round =>
    clear H'
    try clear c1
    try clear p2
    obtain ⟨x5_1, rfl, HA, HK1, BK160, HB⟩ := hrel
    cases gk with
    | zero => exact absurd HA.out (by simp [ashlarref07_Find.l0])
    | succ k1 =>
      have H := HA.out
      clear HA
      simp only [ashlarref07_Find.l0] at H
      by_cases c4 : x5_1 < (l0.length : Int)
      · rw [if_pos c4] at H
        have c4b0 : decide (x5_1 < (l0.length : Int)) = true := decide_eq_true c4
        clear c4
        by_cases c5 : 0 ≤ x5_1
        · rw [if_pos c5] at H
          have c5b0 : decide (0 ≤ x5_1) = true := decide_eq_true c5
          clear c5
          replace H := Option.bind_eq_some_iff.mp H
          obtain ⟨t162, A60, H⟩ := H
          replace H : (if t162 = true then (some x5_1) else (ashlarref07_Find.l0 k1 l0 (wrap64 (x5_1 + 1)) a1_0 a1_1 a1_2 l1_3)) = some r := H
          have A6 := Aside0.mk A60
          clear A60
          by_cases c7 : t162 = true
          · subst c7
            have H1 : (some x5_1) = some r := by rw [if_pos rfl] at H; exact H
            clear H
            have H := H1
            clear H1
            obtain rfl := Option.some.inj H
            try go_wp2
            have n0_ := Aside0.mk (blk_drew BK160.out)
            have n1_ := Aside0.mk (below_drew1 HB.out)
            clear BK160
            clear HB
            have BK160 := n0_
            have HB := n1_
            clear n0_ n1_
            have p161 : 0 ≤ (x5_1 : Int) := of_decide_eq_true (by first | (with_reducible assumption) | assumption)
            have q161 : x5_1 < (l0.length : Int) := of_decide_eq_true (by first | (with_reducible assumption) | assumption)
            obtain ⟨ad161, A161_3, c161_3, e161, hx161_0, hx161_1, hx161_2, hx161_3, hl161_3, hi161_3⟩ := at_T24 HR0.out x5_1 p161 q161
            have hw161_3 := hx161_3
            have hw161_2 := hx161_2
            have hw161_1 := hx161_1
            have hw161_0 := hx161_0
            cases e161
            replace hx161_0 := (HB.out.cell (World.block_lt_of_cell? w _ hx161_0)).trans hx161_0
            replace hx161_1 := (HB.out.cell (World.block_lt_of_cell? w _ hx161_1)).trans hx161_1
            replace hx161_2 := (HB.out.cell (World.block_lt_of_cell? w _ hx161_2)).trans hx161_2
            replace hx161_3 := (HB.out.cell (World.block_lt_of_cell? w _ hx161_3)).trans hx161_3
            have HR161_3 := Aside0.mk hi161_3
            have HC161_3 := Aside0.mk hl161_3
            clear hi161_3 hl161_3
            replace p161 := eq_true p161
            replace q161 := eq_true q161
            refine start_ (n := 7) (S := fun w' => w'.cell? ⟨gb160, 0, none⟩ = some (.int .i64 a1_0) ∧ w'.cell? ⟨gb160, 1, none⟩ = some (.string a1_1) ∧ w'.cell? ⟨gb160, 2, none⟩ = some (.int .i64 a1_2) ∧ w'.cell? ⟨gb160, 3, none⟩ = some (.slice A1_3 l1_3.length c1_3) ∧ w'.cell? (ad161.add ((x5_1).toNat * 4)) = some (.int .i64 ((rd_T24 l0 x5_1).f0)) ∧ w'.cell? ⟨(ad161.add ((x5_1).toNat * 4)).block, (ad161.add ((x5_1).toNat * 4)).off + 1, none⟩ = some (.string ((rd_T24 l0 x5_1).f1)) ∧ w'.cell? ⟨(ad161.add ((x5_1).toNat * 4)).block, (ad161.add ((x5_1).toNat * 4)).off + 2, none⟩ = some (.int .i64 ((rd_T24 l0 x5_1).f2)) ∧ w'.cell? ⟨(ad161.add ((x5_1).toNat * 4)).block, (ad161.add ((x5_1).toNat * 4)).off + 3, none⟩ = some (.slice A161_3 ((rd_T24 l0 x5_1).f3).length c161_3)) (ds := []) #[false, false, false, false, false, false, false] (by kernel_rfl) rfl rfl ⟨(blk_cell BK160.out 0).trans rfl, (blk_cell BK160.out 1).trans rfl, (blk_cell BK160.out 2).trans rfl, (blk_cell BK160.out 3).trans rfl, ((HB.out.cell (World.block_lt_of_cell? w _ hw161_0)).trans hw161_0), ((HB.out.cell (World.block_lt_of_cell? w _ hw161_1)).trans hw161_1), ((HB.out.cell (World.block_lt_of_cell? w _ hw161_2)).trans hw161_2), ((HB.out.cell (World.block_lt_of_cell? w _ hw161_3)).trans hw161_3)⟩ (fun hHeld => ?_)
            generalize wr.drew = w8 at BK160 HB HR161_3 hx161_0 hx161_1 hx161_2 hx161_3 hHeld ⊢
            refine pure_ (i := 0) (N := some 13) (v := ?_) (a' := ?_) #[true, false, false, false, false, false, false] rfl rfl (by kernel_rfl) (fun _ _ _ h => h) (Or.inl ⟨by rfl, ?_⟩) ?_ ?_
            rotate_left
            · intro w'
              go_simp
              with_reducible rfl
            rotate_left
            · simp only [Act.put, List.setIfInBounds_toArray, List.set_cons_zero, List.set_cons_succ, i64_w, i32_w]
              rfl
            refine pure_ (i := 1) (N := some 14) (v := ?_) (a' := ?_) #[true, true, false, false, false, false, false] rfl rfl (by kernel_rfl) (fun _ _ _ h => h) (Or.inl ⟨by rfl, ?_⟩) ?_ ?_
            rotate_left
            · intro w'
              go_simp
              with_reducible rfl
            rotate_left
            · simp only [Act.put, List.setIfInBounds_toArray, List.set_cons_zero, List.set_cons_succ, i64_w, i32_w]
              rfl
            refine pure_ (i := 2) (N := some 15) (v := ?_) (a' := ?_) #[true, true, true, false, false, false, false] rfl rfl (by kernel_rfl) (fun _ _ _ h => h) (Or.inl ⟨by rfl, ?_⟩) ?_ ?_
            rotate_left
            · intro w'
              go_simp
              with_reducible rfl
            rotate_left
            · simp only [Act.put, List.setIfInBounds_toArray, List.set_cons_zero, List.set_cons_succ, i64_w, i32_w]
              rfl
            refine take_ (i := 3) (N := some 16) (v := ?_) (a' := ?_) #[true, true, true, true, false, false, false] rfl rfl (by kernel_rfl) (fun _ _ _ h => h) (Or.inl ⟨by rfl, ?_⟩) hHeld ?_ ?_
            rotate_left
            · rintro w' ⟨s0, s1, s2, s3, s4, s5, s6, s7⟩
              go_simp
              with_reducible rfl
            rotate_left
            · simp only [Act.put, List.setIfInBounds_toArray, List.set_cons_zero, List.set_cons_succ, i64_w, i32_w]
              rfl
            refine take_ (i := 4) (N := some 17) (v := ?_) (a' := ?_) #[true, true, true, true, true, false, false] rfl rfl (by kernel_rfl) (fun _ _ _ h => h) (Or.inl ⟨by rfl, ?_⟩) hHeld ?_ ?_
            rotate_left
            · rintro w' ⟨s0, s1, s2, s3, s4, s5, s6, s7⟩
              go_simp
              with_reducible rfl
            rotate_left
            · simp only [Act.put, List.setIfInBounds_toArray, List.set_cons_zero, List.set_cons_succ, i64_w, i32_w]
              rfl
            refine one_ (i := 5) (N := some 18) #[true, true, true, true, true, true, false] rfl rfl (by kernel_rfl) (by decide) (fun K hK => ?_)
            refine goes_ Tryd.func13 (by kernel_rfl) rfl #[.agg #[.int .i64 ((rd_T24 l0 x5_1).f0), .string ((rd_T24 l0 x5_1).f1), .int .i64 ((rd_T24 l0 x5_1).f2), .slice A161_3 ((rd_T24 l0 x5_1).f3).length c161_3], .agg #[.int .i64 a1_0, .string a1_1, .int .i64 a1_2, .slice A1_3 l1_3.length c1_3]] (by rfl) rfl rfl (by (try simp only [List.map_toArray, List.map_cons, List.map_nil]); first | done | rfl | (simp only [List.length_drop, List.length_take]; rfl)) ?_
            with_reducible refine (ashlarref03_Same.calls k1 ((rd_T24 l0 x5_1).f0) ((rd_T24 l0 x5_1).f1) ((rd_T24 l0 x5_1).f2) _ _ ((rd_T24 l0 x5_1).f3) a1_0 a1_1 a1_2 _ _ l1_3 true _ ?side1 ?side2 ?side3 ?side4 A6.out).mono ?_
            (case side1 => repeat (first | exact (Kd.C_below HR161_3.out HB.out) | (with_reducible refine Kd.C_alloc ?_ _) | (with_reducible refine Kd.C_drewN ?_ _) | (with_reducible refine Kd.C_drew ?_)))
            (case side2 => exact HC161_3.out)
            (case side3 => repeat (first | exact (Kd.C_below HR1_3.out HB.out) | (with_reducible refine Kd.C_alloc ?_ _) | (with_reducible refine Kd.C_drewN ?_ _) | (with_reducible refine Kd.C_drew ?_)))
            (case side4 => exact HC1_3.out)
            rintro e w9 ⟨rfl, hb⟩
            refine ⟨_, rfl, ?_⟩
            have n0_ := Aside0.mk (blk_below (g := gb160) (o := .cells #[.int .i64 a1_0, .string a1_1, .int .i64 a1_2, .slice A1_3 l1_3.length c1_3] 24 (0, 0)) (by (with_reducible repeat (first | refine blk_drewN ?_ _ | refine blk_drew ?_ | refine blk_alloc ?_ _)); exact BK160.out) hb)
            have n1_ := Aside0.mk (below_step (by repeat (first | (with_reducible first | exact HB.out | apply below_alloc | apply pw_below_drewN | apply below_drew1 | refine below_set ?_ GE160.out) | exact HB.out)) hb)
            clear BK160
            clear HB
            have BK160 := n0_
            have HB := n1_
            clear n0_ n1_
            (try clear hb)
            (try clear hb2)
            (try clear hk)
            (try clear hi)
            refine hK.out _ _ ⟨(blk_cell BK160.out 0).trans rfl, (blk_cell BK160.out 1).trans rfl, (blk_cell BK160.out 2).trans rfl, (blk_cell BK160.out 3).trans rfl, ((HB.out.cell (World.block_lt_of_cell? w _ hw161_0)).trans hw161_0), ((HB.out.cell (World.block_lt_of_cell? w _ hw161_1)).trans hw161_1), ((HB.out.cell (World.block_lt_of_cell? w _ hw161_2)).trans hw161_2), ((HB.out.cell (World.block_lt_of_cell? w _ hw161_3)).trans hw161_3)⟩ (fun hHeld => ?_)
            clear hK K
            refine norm_ (a' := ?_) ?_ ?_
            rotate_left
            · show Act.put _ (some 18) _ = _
              simp only [Act.put, List.setIfInBounds_toArray, List.set_cons_zero, List.set_cons_succ, i64_w, i32_w]
              rfl
            refine pure_ (i := 6) (N := some 6) (v := ?_) (a' := ?_) #[true, true, true, true, true, true, true] rfl rfl (by kernel_rfl) (fun _ _ _ h => h) (Or.inl ⟨by rfl, ?_⟩) ?_ ?_
            rotate_left
            · intro w'
              go_simp
              with_reducible rfl
            rotate_left
            · simp only [Act.put, List.setIfInBounds_toArray, List.set_cons_zero, List.set_cons_succ, i64_w, i32_w]
              rfl
            refine done_ (by kernel_rfl) ?_
            try go_wp2
            go_ret
            exact ⟨by first | rfl | (simp [errW_none, errW_some] <;> rfl) | (simp [*, errW_none, errW_some] <;> rfl), by repeat (first | (with_reducible first | exact HB.out | apply below_alloc | apply pw_below_drewN | apply below_drew1 | refine below_set ?_ GE160.out) | exact HB.out)⟩
          · replace c7 := Bool.eq_false_iff.mpr c7
            subst c7
            have H1 : (ashlarref07_Find.l0 k1 l0 (wrap64 (x5_1 + 1)) a1_0 a1_1 a1_2 l1_3) = some r := by rw [if_neg (show ¬ (false = true) by decide)] at H; exact H
            clear H
            have H := H1
            clear H1
            have H' := Aside0.mk H
            clear H
            try go_wp2
            have n0_ := Aside0.mk (blk_drew BK160.out)
            have n1_ := Aside0.mk (below_drew1 HB.out)
            clear BK160
            clear HB
            have BK160 := n0_
            have HB := n1_
            clear n0_ n1_
            have p161 : 0 ≤ (x5_1 : Int) := of_decide_eq_true (by first | (with_reducible assumption) | assumption)
            have q161 : x5_1 < (l0.length : Int) := of_decide_eq_true (by first | (with_reducible assumption) | assumption)
            obtain ⟨ad161, A161_3, c161_3, e161, hx161_0, hx161_1, hx161_2, hx161_3, hl161_3, hi161_3⟩ := at_T24 HR0.out x5_1 p161 q161
            have hw161_3 := hx161_3
            have hw161_2 := hx161_2
            have hw161_1 := hx161_1
            have hw161_0 := hx161_0
            cases e161
            replace hx161_0 := (HB.out.cell (World.block_lt_of_cell? w _ hx161_0)).trans hx161_0
            replace hx161_1 := (HB.out.cell (World.block_lt_of_cell? w _ hx161_1)).trans hx161_1
            replace hx161_2 := (HB.out.cell (World.block_lt_of_cell? w _ hx161_2)).trans hx161_2
            replace hx161_3 := (HB.out.cell (World.block_lt_of_cell? w _ hx161_3)).trans hx161_3
            have HR161_3 := Aside0.mk hi161_3
            have HC161_3 := Aside0.mk hl161_3
            clear hi161_3 hl161_3
            replace p161 := eq_true p161
            replace q161 := eq_true q161
            refine start_ (n := 7) (S := fun w' => w'.cell? ⟨gb160, 0, none⟩ = some (.int .i64 a1_0) ∧ w'.cell? ⟨gb160, 1, none⟩ = some (.string a1_1) ∧ w'.cell? ⟨gb160, 2, none⟩ = some (.int .i64 a1_2) ∧ w'.cell? ⟨gb160, 3, none⟩ = some (.slice A1_3 l1_3.length c1_3) ∧ w'.cell? (ad161.add ((x5_1).toNat * 4)) = some (.int .i64 ((rd_T24 l0 x5_1).f0)) ∧ w'.cell? ⟨(ad161.add ((x5_1).toNat * 4)).block, (ad161.add ((x5_1).toNat * 4)).off + 1, none⟩ = some (.string ((rd_T24 l0 x5_1).f1)) ∧ w'.cell? ⟨(ad161.add ((x5_1).toNat * 4)).block, (ad161.add ((x5_1).toNat * 4)).off + 2, none⟩ = some (.int .i64 ((rd_T24 l0 x5_1).f2)) ∧ w'.cell? ⟨(ad161.add ((x5_1).toNat * 4)).block, (ad161.add ((x5_1).toNat * 4)).off + 3, none⟩ = some (.slice A161_3 ((rd_T24 l0 x5_1).f3).length c161_3)) (ds := []) #[false, false, false, false, false, false, false] (by kernel_rfl) rfl rfl ⟨(blk_cell BK160.out 0).trans rfl, (blk_cell BK160.out 1).trans rfl, (blk_cell BK160.out 2).trans rfl, (blk_cell BK160.out 3).trans rfl, ((HB.out.cell (World.block_lt_of_cell? w _ hw161_0)).trans hw161_0), ((HB.out.cell (World.block_lt_of_cell? w _ hw161_1)).trans hw161_1), ((HB.out.cell (World.block_lt_of_cell? w _ hw161_2)).trans hw161_2), ((HB.out.cell (World.block_lt_of_cell? w _ hw161_3)).trans hw161_3)⟩ (fun hHeld => ?_)
            generalize wr.drew = w10 at BK160 HB HR161_3 hx161_0 hx161_1 hx161_2 hx161_3 hHeld ⊢
            refine pure_ (i := 0) (N := some 13) (v := ?_) (a' := ?_) #[true, false, false, false, false, false, false] rfl rfl (by kernel_rfl) (fun _ _ _ h => h) (Or.inl ⟨by rfl, ?_⟩) ?_ ?_
            rotate_left
            · intro w'
              go_simp
              with_reducible rfl
            rotate_left
            · simp only [Act.put, List.setIfInBounds_toArray, List.set_cons_zero, List.set_cons_succ, i64_w, i32_w]
              rfl
            refine pure_ (i := 1) (N := some 14) (v := ?_) (a' := ?_) #[true, true, false, false, false, false, false] rfl rfl (by kernel_rfl) (fun _ _ _ h => h) (Or.inl ⟨by rfl, ?_⟩) ?_ ?_
            rotate_left
            · intro w'
              go_simp
              with_reducible rfl
            rotate_left
            · simp only [Act.put, List.setIfInBounds_toArray, List.set_cons_zero, List.set_cons_succ, i64_w, i32_w]
              rfl
            refine pure_ (i := 2) (N := some 15) (v := ?_) (a' := ?_) #[true, true, true, false, false, false, false] rfl rfl (by kernel_rfl) (fun _ _ _ h => h) (Or.inl ⟨by rfl, ?_⟩) ?_ ?_
            rotate_left
            · intro w'
              go_simp
              with_reducible rfl
            rotate_left
            · simp only [Act.put, List.setIfInBounds_toArray, List.set_cons_zero, List.set_cons_succ, i64_w, i32_w]
              rfl
            refine take_ (i := 3) (N := some 16) (v := ?_) (a' := ?_) #[true, true, true, true, false, false, false] rfl rfl (by kernel_rfl) (fun _ _ _ h => h) (Or.inl ⟨by rfl, ?_⟩) hHeld ?_ ?_
            rotate_left
            · rintro w' ⟨s0, s1, s2, s3, s4, s5, s6, s7⟩
              go_simp
              with_reducible rfl
            rotate_left
            · simp only [Act.put, List.setIfInBounds_toArray, List.set_cons_zero, List.set_cons_succ, i64_w, i32_w]
              rfl
            refine take_ (i := 4) (N := some 17) (v := ?_) (a' := ?_) #[true, true, true, true, true, false, false] rfl rfl (by kernel_rfl) (fun _ _ _ h => h) (Or.inl ⟨by rfl, ?_⟩) hHeld ?_ ?_
            rotate_left
            · rintro w' ⟨s0, s1, s2, s3, s4, s5, s6, s7⟩
              go_simp
              with_reducible rfl
            rotate_left
            · simp only [Act.put, List.setIfInBounds_toArray, List.set_cons_zero, List.set_cons_succ, i64_w, i32_w]
              rfl
            refine one_ (i := 5) (N := some 18) #[true, true, true, true, true, true, false] rfl rfl (by kernel_rfl) (by decide) (fun K hK => ?_)
            refine goes_ Tryd.func13 (by kernel_rfl) rfl #[.agg #[.int .i64 ((rd_T24 l0 x5_1).f0), .string ((rd_T24 l0 x5_1).f1), .int .i64 ((rd_T24 l0 x5_1).f2), .slice A161_3 ((rd_T24 l0 x5_1).f3).length c161_3], .agg #[.int .i64 a1_0, .string a1_1, .int .i64 a1_2, .slice A1_3 l1_3.length c1_3]] (by rfl) rfl rfl (by (try simp only [List.map_toArray, List.map_cons, List.map_nil]); first | done | rfl | (simp only [List.length_drop, List.length_take]; rfl)) ?_
            with_reducible refine (ashlarref03_Same.calls k1 ((rd_T24 l0 x5_1).f0) ((rd_T24 l0 x5_1).f1) ((rd_T24 l0 x5_1).f2) _ _ ((rd_T24 l0 x5_1).f3) a1_0 a1_1 a1_2 _ _ l1_3 false _ ?side1 ?side2 ?side3 ?side4 A6.out).mono ?_
            (case side1 => repeat (first | exact (Kd.C_below HR161_3.out HB.out) | (with_reducible refine Kd.C_alloc ?_ _) | (with_reducible refine Kd.C_drewN ?_ _) | (with_reducible refine Kd.C_drew ?_)))
            (case side2 => exact HC161_3.out)
            (case side3 => repeat (first | exact (Kd.C_below HR1_3.out HB.out) | (with_reducible refine Kd.C_alloc ?_ _) | (with_reducible refine Kd.C_drewN ?_ _) | (with_reducible refine Kd.C_drew ?_)))
            (case side4 => exact HC1_3.out)
            rintro e w11 ⟨rfl, hb⟩
            refine ⟨_, rfl, ?_⟩
            have n0_ := Aside0.mk (blk_below (g := gb160) (o := .cells #[.int .i64 a1_0, .string a1_1, .int .i64 a1_2, .slice A1_3 l1_3.length c1_3] 24 (0, 0)) (by (with_reducible repeat (first | refine blk_drewN ?_ _ | refine blk_drew ?_ | refine blk_alloc ?_ _)); exact BK160.out) hb)
            have n1_ := Aside0.mk (below_step (by repeat (first | (with_reducible first | exact HB.out | apply below_alloc | apply pw_below_drewN | apply below_drew1 | refine below_set ?_ GE160.out) | exact HB.out)) hb)
            clear BK160
            clear HB
            have BK160 := n0_
            have HB := n1_
            clear n0_ n1_
            (try clear hb)
            (try clear hb2)
            (try clear hk)
            (try clear hi)
            refine hK.out _ _ ⟨(blk_cell BK160.out 0).trans rfl, (blk_cell BK160.out 1).trans rfl, (blk_cell BK160.out 2).trans rfl, (blk_cell BK160.out 3).trans rfl, ((HB.out.cell (World.block_lt_of_cell? w _ hw161_0)).trans hw161_0), ((HB.out.cell (World.block_lt_of_cell? w _ hw161_1)).trans hw161_1), ((HB.out.cell (World.block_lt_of_cell? w _ hw161_2)).trans hw161_2), ((HB.out.cell (World.block_lt_of_cell? w _ hw161_3)).trans hw161_3)⟩ (fun hHeld => ?_)
            clear hK K
            refine norm_ (a' := ?_) ?_ ?_
            rotate_left
            · show Act.put _ (some 18) _ = _
              simp only [Act.put, List.setIfInBounds_toArray, List.set_cons_zero, List.set_cons_succ, i64_w, i32_w]
              rfl
            refine pure_ (i := 6) (N := some 6) (v := ?_) (a' := ?_) #[true, true, true, true, true, true, true] rfl rfl (by kernel_rfl) (fun _ _ _ h => h) (Or.inl ⟨by rfl, ?_⟩) ?_ ?_
            rotate_left
            · intro w'
              go_simp
              with_reducible rfl
            rotate_left
            · simp only [Act.put, List.setIfInBounds_toArray, List.set_cons_zero, List.set_cons_succ, i64_w, i32_w]
              rfl
            refine done_ (by kernel_rfl) ?_
            try go_wp2
            go_roundg k1
            case measure => have := HK1.out; omega
            case rel => exact ⟨(wrap64 (x5_1 + 1)), (by first | rfl | (simp; done) | (simp [*]; done)), H', ⟨by have := HK1.out; omega⟩, ⟨by (with_reducible repeat (first | refine blk_drewN ?_ _ | refine blk_drew ?_ | refine blk_alloc ?_ _)); exact BK160.out⟩, ⟨by repeat (first | (with_reducible first | exact HB.out | apply below_alloc | apply pw_below_drewN | apply below_drew1 | refine below_set ?_ GE160.out) | exact HB.out)⟩⟩
        · rw [if_neg c5] at H
          exact absurd H (by simp)
      · rw [if_neg c4] at H
        have c4b0 : decide (x5_1 < (l0.length : Int)) = false := decide_eq_false c4
        clear c4
        obtain rfl := Option.some.inj H
        go_wp2
        go_ret
        exact ⟨by first | rfl | (simp [errW_none, errW_some] <;> rfl) | (simp [*, errW_none, errW_some] <;> rfl), by repeat (first | (with_reducible first | exact HB.out | apply below_alloc | apply pw_below_drewN | apply below_drew1 | refine below_set ?_ GE160.out) | exact HB.out)⟩

end Go.Proofs.YthckboogibhjaaaDoor.Trm
