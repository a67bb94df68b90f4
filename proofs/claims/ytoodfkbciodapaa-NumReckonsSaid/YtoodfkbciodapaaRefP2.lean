-- Written by a program of this session (myprint.py) out of the translation, with contracts of this session given.
import Derived.Test.YtoodfkbciodapaaRefP1
namespace Go.Proofs.Ytoodfkbciodapaa.PNumReckons
open Go.RowKit Go.Proofs.Ytoodfkbciodapaa.Given Go.Proofs.YtoodfkbciodapaaW.PrintWords Go.Proofs.YtoodfkbciodapaaW.PrintLast Go.Proofs.YtoodfkbciodapaaW.PrintMore
attribute [local go_sem] max2_int min2_int max_two min_two max_three min_three max_four min_four   -- for this text's walks alone
set_option linter.unusedVariables false
set_option linter.unusedSimpArgs false

/-! ### ashlarref01_Over: function 53 -/
mutual
def ashlarref01_Over.l0 : Nat → List Int → Int → Bool → List Int → Bool → List Int → Bool → List Int → Option (Bool × List Int × Bool × List Int)
  | 0, _, _, _, _, _, _, _, _ => none
  | k + 1, x6, x8, x154000, x154001, x155000, x155001, x161000, x161001 => if x8 ≥ 0 then (if 0 ≤ x8 then (if x8 < (x154001.length : Int) then ((some (([rd x154001 x8] : List Int) : List Int)).bind fun y166 => (if y166.length + x161001.length < 17592186044416 then ((ashlarref01_cut.f false (y166 ++ x161001)).bind fun bt172 => (ashlarref01_Over.l1 k x6 x8 x154000 x154001 x155000 x155001 bt172.1 bt172.2)) else (none))) else (none)) else (none)) else ((ashlarref01_cut.f false x6).bind fun bt161 => (some (bt161.1, bt161.2, x161000, x161001)))
def ashlarref01_Over.l1 : Nat → List Int → Int → Bool → List Int → Bool → List Int → Bool → List Int → Option (Bool × List Int × Bool × List Int)
  | 0, _, _, _, _, _, _, _, _ => none
  | k + 1, x6, x8, x154000, x154001, x155000, x155001, x161000, x161001 => (ashlarref01_size.f k x161001 x155001).bind fun t176 => (if t176 ≥ 0 then ((ashlarref01_apart.f k x161001 x155001).bind fun t177 => ((ashlarref01_cut.f false t177).bind fun bt180 => (if 0 ≤ x8 then (if x8 < (x6.length : Int) then (ashlarref01_Over.l1 k (x6.set (x8 : Int).toNat (wrap64 ((rd x6 x8) + 1))) x8 x154000 x154001 x155000 x155001 bt180.1 bt180.2) else (none)) else (none)))) else (ashlarref01_Over.l0 k x6 (wrap64 (x8 - 1)) x154000 x154001 x155000 x155001 x161000 x161001))
end
def ashlarref01_Over.f (k : Nat) (a0_0 : Bool) (l0_1 : List Int) (a1_0 : Bool) (l1_1 : List Int) : Option (Bool × List Int × Bool × List Int) := if 0 ≤ (l0_1.length : Int) then (if ((l0_1.length : Int) : Int).toNat ≤ 35184372088832 then (ashlarref01_Over.l0 k (List.replicate ((l0_1.length : Int) : Int).toNat 0) (wrap64 ((l0_1.length : Int) - 1)) a0_0 l0_1 a1_0 l1_1 false ([] : List Int)) else (none)) else (none)
theorem ashlarref01_Over.mono_l : ∀ k, (∀ y0 y1 y2 y3 y4 y5 y6 y7, LeO (ashlarref01_Over.l0 k y0 y1 y2 y3 y4 y5 y6 y7) (ashlarref01_Over.l0 (k + 1) y0 y1 y2 y3 y4 y5 y6 y7)) ∧ (∀ y0 y1 y2 y3 y4 y5 y6 y7, LeO (ashlarref01_Over.l1 k y0 y1 y2 y3 y4 y5 y6 y7) (ashlarref01_Over.l1 (k + 1) y0 y1 y2 y3 y4 y5 y6 y7))
  | 0 => ⟨fun _ _ _ _ _ _ _ _ r h => by simp [ashlarref01_Over.l0] at h, fun _ _ _ _ _ _ _ _ r h => by simp [ashlarref01_Over.l1] at h⟩
  | k + 1 => by
    obtain ⟨ih0, ih1⟩ := ashlarref01_Over.mono_l k
    refine ⟨?_, ?_⟩
    · intro y0 y1 y2 y3 y4 y5 y6 y7
      unfold ashlarref01_Over.l0
      repeat' first
      | (with_reducible exact ih0 _ _ _ _ _ _ _ _)
      | (with_reducible exact ih1 _ _ _ _ _ _ _ _)
      | (with_reducible exact ashlarref01_apart.mono _ _ _)
      | (with_reducible exact ashlarref01_size.mono _ _ _)
      | (with_reducible exact LeO.refl _)
      | (with_reducible exact LeO.none _)
      | (with_reducible refine LeO.ite ?_ ?_)
      | (with_reducible refine LeO.bind ?_ (fun _ => ?_))
      | exact ih0 _ _ _ _ _ _ _ _
      | exact ih1 _ _ _ _ _ _ _ _
      | exact ashlarref01_apart.mono _ _ _
      | exact ashlarref01_size.mono _ _ _
      | exact LeO.none _
      | refine LeO.ite ?_ ?_
      | refine LeO.bind ?_ (fun _ => ?_)
    · intro y0 y1 y2 y3 y4 y5 y6 y7
      unfold ashlarref01_Over.l1
      repeat' first
      | (with_reducible exact ih0 _ _ _ _ _ _ _ _)
      | (with_reducible exact ih1 _ _ _ _ _ _ _ _)
      | (with_reducible exact ashlarref01_apart.mono _ _ _)
      | (with_reducible exact ashlarref01_size.mono _ _ _)
      | (with_reducible exact LeO.refl _)
      | (with_reducible exact LeO.none _)
      | (with_reducible refine LeO.ite ?_ ?_)
      | (with_reducible refine LeO.bind ?_ (fun _ => ?_))
      | exact ih0 _ _ _ _ _ _ _ _
      | exact ih1 _ _ _ _ _ _ _ _
      | exact ashlarref01_apart.mono _ _ _
      | exact ashlarref01_size.mono _ _ _
      | exact LeO.none _
      | refine LeO.ite ?_ ?_
      | refine LeO.bind ?_ (fun _ => ?_)
theorem ashlarref01_Over.mono : ∀ a0 a1 a2 a3 k, LeO (ashlarref01_Over.f k a0 a1 a2 a3) (ashlarref01_Over.f (k + 1) a0 a1 a2 a3) := by
  intro a0 a1 a2 a3 k
  obtain ⟨ih0, ih1⟩ := ashlarref01_Over.mono_l k
  unfold ashlarref01_Over.f
  repeat' first
      | (with_reducible exact ih0 _ _ _ _ _ _ _ _)
      | (with_reducible exact ih1 _ _ _ _ _ _ _ _)
      | (with_reducible exact ashlarref01_apart.mono _ _ _)
      | (with_reducible exact ashlarref01_size.mono _ _ _)
      | (with_reducible exact LeO.refl _)
      | (with_reducible exact LeO.none _)
      | (with_reducible refine LeO.ite ?_ ?_)
      | (with_reducible refine LeO.bind ?_ (fun _ => ?_))
      | exact ih0 _ _ _ _ _ _ _ _
      | exact ih1 _ _ _ _ _ _ _ _
      | exact ashlarref01_apart.mono _ _ _
      | exact ashlarref01_size.mono _ _ _
      | exact LeO.none _
      | refine LeO.ite ?_ ?_
      | refine LeO.bind ?_ (fun _ => ?_)
def ashlarref01_Over.T6 : Bool × List (List Nat × List Nat) := (true, [([], []), ([0], [0]), ([], []), ([1, 2], [1, 2]), ([3], [3]), ([4], [4]), ([], []), ([6], [6]), ([5, 7], [5, 7]), ([8], [8]), ([9, 8], [9]), ([10, 10, 0, 1, 2, 3, 4, 5, 6, 7, 8, 9, 10], [10])])
def ashlarref01_Over.B6 : List Nat := [0, 1, 0, 7, 15, 31, 0, 64, 255, 511, 1023, 2047]
theorem ashlarref01_Over.tab6 : rtab .any (opsOf Try.f53 6) = ashlarref01_Over.T6 := by kernel_rfl
theorem ashlarref01_Over.bits6 : waitsOk ashlarref01_Over.T6.2 ashlarref01_Over.B6 = true := by kernel_rfl
set_option maxHeartbeats 8000000 in
set_option maxRecDepth 100000 in
theorem ashlarref01_Over.calls (k : Nat) (a0_0 : Bool) (A0_1 : Option Addr) (c0_1 : Nat) (l0_1 : List Int) (a1_0 : Bool) (A1_1 : Option Addr) (c1_1 : Nat) (l1_1 : List Int) (r1 : Bool) (r2 : List Int) (r3 : Bool) (r4 : List Int) (w : World) (hr0_1 : Kd.C (Kd.int .i64) w A0_1 l0_1.length l0_1) (hc0_1 : l0_1.length ≤ c0_1) (hr1_1 : Kd.C (Kd.int .i64) w A1_1 l1_1.length l1_1) (hc1_1 : l1_1.length ≤ c1_1) (h : ashlarref01_Over.f k a0_0 l0_1 a1_0 l1_1 = some (r1, r2, r3, r4)) :
    Calls Try.prog 53 #[.agg #[.bool a0_0, .slice A0_1 l0_1.length c0_1], .agg #[.bool a1_0, .slice A1_1 l1_1.length c1_1]] w fun e w' => ∃ v1_ v3_ : Value, e = .returned (.tuple #[.agg #[.bool r1, v1_], .agg #[.bool r3, v3_]]) ∧ Kd.V (Kd.int .i64) 3 w' w.heap.size (fun k_ => (w.heap.size ≤ k_)) v1_ r2 ∧ Kd.V (Kd.int .i64) 3 w' w.heap.size (fun k_ => (w.heap.size ≤ k_)) v3_ r4 ∧ Below w.heap.size w w' := by
  have hu59 := Try.underlying59
  have HR0_1 := Aside0.mk hr0_1
  have HC0_1 := Aside0.mk hc0_1
  clear hr0_1 hc0_1
  have HR1_1 := Aside0.mk hr1_1
  have HC1_1 := Aside0.mk hc1_1
  clear hr1_1 hc1_1
  have HB := Aside0.mk (Below.refl w.heap.size w)
  have H : (if 0 ≤ (l0_1.length : Int) then (if ((l0_1.length : Int) : Int).toNat ≤ 35184372088832 then (ashlarref01_Over.l0 k (List.replicate ((l0_1.length : Int) : Int).toNat 0) (wrap64 ((l0_1.length : Int) - 1)) a0_0 l0_1 a1_0 l1_1 false ([] : List Int)) else (none)) else (none)) = some (r1, r2, r3, r4) := h
  clear h
  by_cases c3 : 0 ≤ (l0_1.length : Int)
  · rw [if_pos c3] at H
    have c3b0 := eq_true c3
    have c3b1 : decide (0 ≤ (l0_1.length : Int)) = true := decide_eq_true c3
    clear c3
    by_cases c4 : ((l0_1.length : Int) : Int).toNat ≤ 35184372088832
    · rw [if_pos c4] at H
      have c4b0 := eq_true c4
      have c4b1 : decide (((l0_1.length : Int) : Int).toNat ≤ 35184372088832) = true := decide_eq_true c4
      clear c4
      obtain ⟨y157, hy157⟩ : ∃ y_ : List Int, y_ = (List.replicate ((l0_1.length : Int) : Int).toNat 0) := ⟨_, rfl⟩
      replace H : (ashlarref01_Over.l0 k y157 (wrap64 ((l0_1.length : Int) - 1)) a0_0 l0_1 a1_0 l1_1 false ([] : List Int)) = some (r1, r2, r3, r4) := by first | (rw [hy157]; with_reducible exact H) | (have H2_ := (Option.bind_some _ _).symm.trans H; rw [hy157]; with_reducible exact H2_) | (have H2_ := (Option.bind_some _ _).symm.trans H; with_reducible exact H2_) | with_reducible exact H | (rw [hy157]; exact H) | exact H
      have Ny157 := Aside0.mk hy157
      clear hy157
      have H' := Aside0.mk H
      clear H
      go_enter Try.func53, Try.ntmps53
      go_wp2_with (first | ((with_reducible refine gate_dst (N := 2) rfl ?_); refine box_event ?hg (N := 2) ?hd (cs := #[.bool a0_0, .slice A0_1 l0_1.length c0_1]) (t := 59) ?hr ?_; (case hd => rfl); (case hg => rfl); (case hr => first | (go_simp; done) | (go_simp; rfl)); intro gb153 hg w5 hbox hb; have n0_ := Aside0.mk (below_step (by repeat (first | (with_reducible first | exact HB.out | apply below_alloc | apply pw_below_drewN | apply below_drew1) | exact HB.out)) hb); have n1_ := Aside0.mk (hbox); have n2_ := Aside0.mk ((by rw [hg]; exact (below_size (by repeat (first | (with_reducible first | exact HB.out | apply below_alloc | apply pw_below_drewN | apply below_drew1) | exact HB.out))) : w.heap.size ≤ gb153)); have n3_ := Aside0.mk ((by rw [hg]; exact (below_size (by repeat (first | (with_reducible first | exact HB.out | apply below_alloc | apply pw_below_drewN | apply below_drew1) | exact HB.out))) : w.heap.size ≤ gb153)); clear HB; have HB := n0_; have BK153 := n1_; have GW153 := n2_; have GE153 := n3_; clear n0_ n1_ n2_ n3_; clear hb hbox hg) | ((with_reducible refine gate_dst (N := 3) rfl ?_); refine box_event ?hg (N := 3) ?hd (cs := #[.bool a1_0, .slice A1_1 l1_1.length c1_1]) (t := 59) ?hr ?_; (case hd => rfl); (case hg => rfl); (case hr => first | (go_simp; done) | (go_simp; rfl)); intro gb154 hg w6 hbox hb; have n0_ := Aside0.mk (blk_below (g := gb153) (o := .cells #[.bool a0_0, .slice A0_1 l0_1.length c0_1] 59 (0, 0)) (by (with_reducible repeat (first | refine blk_drewN ?_ _ | refine blk_drew ?_ | refine blk_alloc ?_ _)); exact BK153.out) hb); have n1_ := Aside0.mk (below_step (by repeat (first | (with_reducible first | exact HB.out | apply below_alloc | apply pw_below_drewN | apply below_drew1 | refine below_set ?_ GE153.out) | exact HB.out)) hb); have n2_ := Aside0.mk (hbox); have n3_ := Aside0.mk ((by rw [hg]; exact (below_size (by repeat (first | (with_reducible first | exact HB.out | apply below_alloc | apply pw_below_drewN | apply below_drew1 | refine below_set ?_ GE153.out) | exact HB.out))) : w.heap.size ≤ gb154)); have n4_ := Aside0.mk ((by rw [hg]; exact (below_size (by repeat (first | (with_reducible first | exact HB.out | apply below_alloc | apply pw_below_drewN | apply below_drew1 | refine below_set ?_ GE153.out) | exact HB.out))) : w.heap.size ≤ gb154)); have n5_ := Aside0.mk ((by rw [hg]; exact Nat.ne_of_lt (blk_lt (g := gb153) (o := .cells #[.bool a0_0, .slice A0_1 l0_1.length c0_1] 59 (0, 0)) (by (with_reducible repeat (first | refine blk_drewN ?_ _ | refine blk_drew ?_ | refine blk_alloc ?_ _)); exact BK153.out)) : gb153 ≠ gb154)); have n6_ := Aside0.mk ((by rw [hg]; exact Nat.ne_of_gt (blk_lt (g := gb153) (o := .cells #[.bool a0_0, .slice A0_1 l0_1.length c0_1] 59 (0, 0)) (by (with_reducible repeat (first | refine blk_drewN ?_ _ | refine blk_drew ?_ | refine blk_alloc ?_ _)); exact BK153.out)) : gb154 ≠ gb153)); clear BK153; clear HB; have BK153 := n0_; have HB := n1_; have BK154 := n2_; have GW154 := n3_; have GE154 := n4_; have NB153_154 := n5_; have NB154_153 := n6_; clear n0_ n1_ n2_ n3_ n4_ n5_ n6_; clear hb hbox hg) | ((with_reducible refine gate_dst (N := 4) rfl ?_); refine box_event ?hg (N := 4) ?hd (cs := #[.bool false, .slice none 0 0]) (t := 59) ?hr ?_; (case hd => rfl); (case hg => rfl); (case hr => first | (go_simp; done) | (go_simp; rfl)); intro gb155 hg w7 hbox hb; have n0_ := Aside0.mk (blk_below (g := gb153) (o := .cells #[.bool a0_0, .slice A0_1 l0_1.length c0_1] 59 (0, 0)) (by (with_reducible repeat (first | refine blk_drewN ?_ _ | refine blk_drew ?_ | refine blk_alloc ?_ _)); exact BK153.out) hb); have n1_ := Aside0.mk (blk_below (g := gb154) (o := .cells #[.bool a1_0, .slice A1_1 l1_1.length c1_1] 59 (0, 0)) (by (with_reducible repeat (first | refine blk_drewN ?_ _ | refine blk_drew ?_ | refine blk_alloc ?_ _)); exact BK154.out) hb); have n2_ := Aside0.mk (below_step (by repeat (first | (with_reducible first | exact HB.out | apply below_alloc | apply pw_below_drewN | apply below_drew1 | refine below_set ?_ GE153.out | refine below_set ?_ GE154.out) | exact HB.out)) hb); have n3_ := Aside0.mk (hbox); have n4_ := Aside0.mk ((by rw [hg]; exact (below_size (by repeat (first | (with_reducible first | exact HB.out | apply below_alloc | apply pw_below_drewN | apply below_drew1 | refine below_set ?_ GE153.out | refine below_set ?_ GE154.out) | exact HB.out))) : w.heap.size ≤ gb155)); have n5_ := Aside0.mk ((by rw [hg]; exact (below_size (by repeat (first | (with_reducible first | exact HB.out | apply below_alloc | apply pw_below_drewN | apply below_drew1 | refine below_set ?_ GE153.out | refine below_set ?_ GE154.out) | exact HB.out))) : w.heap.size ≤ gb155)); have n6_ := Aside0.mk ((by rw [hg]; exact Nat.ne_of_lt (blk_lt (g := gb153) (o := .cells #[.bool a0_0, .slice A0_1 l0_1.length c0_1] 59 (0, 0)) (by (with_reducible repeat (first | refine blk_drewN ?_ _ | refine blk_drew ?_ | refine blk_alloc ?_ _)); exact BK153.out)) : gb153 ≠ gb155)); have n7_ := Aside0.mk ((by rw [hg]; exact Nat.ne_of_gt (blk_lt (g := gb153) (o := .cells #[.bool a0_0, .slice A0_1 l0_1.length c0_1] 59 (0, 0)) (by (with_reducible repeat (first | refine blk_drewN ?_ _ | refine blk_drew ?_ | refine blk_alloc ?_ _)); exact BK153.out)) : gb155 ≠ gb153)); have n8_ := Aside0.mk ((by rw [hg]; exact Nat.ne_of_lt (blk_lt (g := gb154) (o := .cells #[.bool a1_0, .slice A1_1 l1_1.length c1_1] 59 (0, 0)) (by (with_reducible repeat (first | refine blk_drewN ?_ _ | refine blk_drew ?_ | refine blk_alloc ?_ _)); exact BK154.out)) : gb154 ≠ gb155)); have n9_ := Aside0.mk ((by rw [hg]; exact Nat.ne_of_gt (blk_lt (g := gb154) (o := .cells #[.bool a1_0, .slice A1_1 l1_1.length c1_1] 59 (0, 0)) (by (with_reducible repeat (first | refine blk_drewN ?_ _ | refine blk_drew ?_ | refine blk_alloc ?_ _)); exact BK154.out)) : gb155 ≠ gb154)); clear BK153; clear BK154; clear HB; have BK153 := n0_; have BK154 := n1_; have HB := n2_; have BK155 := n3_; have GW155 := n4_; have GE155 := n5_; have NB153_155 := n6_; have NB155_153 := n7_; have NB154_155 := n8_; have NB155_154 := n9_; clear n0_ n1_ n2_ n3_ n4_ n5_ n6_ n7_ n8_ n9_; clear hb hbox hg) | ((with_reducible refine gate_dst (N := 5) rfl ?_); refine box_event ?hg (N := 5) ?hd (cs := #[.bool false, .slice none 0 0]) (t := 59) ?hr ?_; (case hd => rfl); (case hg => rfl); (case hr => first | (go_simp; done) | (go_simp; rfl)); intro gb156 hg w8 hbox hb; have n0_ := Aside0.mk (blk_below (g := gb153) (o := .cells #[.bool a0_0, .slice A0_1 l0_1.length c0_1] 59 (0, 0)) (by (with_reducible repeat (first | refine blk_drewN ?_ _ | refine blk_drew ?_ | refine blk_alloc ?_ _)); exact BK153.out) hb); have n1_ := Aside0.mk (blk_below (g := gb154) (o := .cells #[.bool a1_0, .slice A1_1 l1_1.length c1_1] 59 (0, 0)) (by (with_reducible repeat (first | refine blk_drewN ?_ _ | refine blk_drew ?_ | refine blk_alloc ?_ _)); exact BK154.out) hb); have n2_ := Aside0.mk (blk_below (g := gb155) (o := .cells #[.bool false, .slice none 0 0] 59 (0, 0)) (by (with_reducible repeat (first | refine blk_drewN ?_ _ | refine blk_drew ?_ | refine blk_alloc ?_ _)); exact BK155.out) hb); have n3_ := Aside0.mk (below_step (by repeat (first | (with_reducible first | exact HB.out | apply below_alloc | apply pw_below_drewN | apply below_drew1 | refine below_set ?_ GE153.out | refine below_set ?_ GE154.out | refine below_set ?_ GE155.out) | exact HB.out)) hb); have n4_ := Aside0.mk (hbox); have n5_ := Aside0.mk ((by rw [hg]; exact (below_size (by repeat (first | (with_reducible first | exact HB.out | apply below_alloc | apply pw_below_drewN | apply below_drew1 | refine below_set ?_ GE153.out | refine below_set ?_ GE154.out | refine below_set ?_ GE155.out) | exact HB.out))) : w.heap.size ≤ gb156)); have n6_ := Aside0.mk ((by rw [hg]; exact (below_size (by repeat (first | (with_reducible first | exact HB.out | apply below_alloc | apply pw_below_drewN | apply below_drew1 | refine below_set ?_ GE153.out | refine below_set ?_ GE154.out | refine below_set ?_ GE155.out) | exact HB.out))) : w.heap.size ≤ gb156)); have n7_ := Aside0.mk ((by rw [hg]; exact Nat.ne_of_lt (blk_lt (g := gb153) (o := .cells #[.bool a0_0, .slice A0_1 l0_1.length c0_1] 59 (0, 0)) (by (with_reducible repeat (first | refine blk_drewN ?_ _ | refine blk_drew ?_ | refine blk_alloc ?_ _)); exact BK153.out)) : gb153 ≠ gb156)); have n8_ := Aside0.mk ((by rw [hg]; exact Nat.ne_of_gt (blk_lt (g := gb153) (o := .cells #[.bool a0_0, .slice A0_1 l0_1.length c0_1] 59 (0, 0)) (by (with_reducible repeat (first | refine blk_drewN ?_ _ | refine blk_drew ?_ | refine blk_alloc ?_ _)); exact BK153.out)) : gb156 ≠ gb153)); have n9_ := Aside0.mk ((by rw [hg]; exact Nat.ne_of_lt (blk_lt (g := gb154) (o := .cells #[.bool a1_0, .slice A1_1 l1_1.length c1_1] 59 (0, 0)) (by (with_reducible repeat (first | refine blk_drewN ?_ _ | refine blk_drew ?_ | refine blk_alloc ?_ _)); exact BK154.out)) : gb154 ≠ gb156)); have n10_ := Aside0.mk ((by rw [hg]; exact Nat.ne_of_gt (blk_lt (g := gb154) (o := .cells #[.bool a1_0, .slice A1_1 l1_1.length c1_1] 59 (0, 0)) (by (with_reducible repeat (first | refine blk_drewN ?_ _ | refine blk_drew ?_ | refine blk_alloc ?_ _)); exact BK154.out)) : gb156 ≠ gb154)); have n11_ := Aside0.mk ((by rw [hg]; exact Nat.ne_of_lt (blk_lt (g := gb155) (o := .cells #[.bool false, .slice none 0 0] 59 (0, 0)) (by (with_reducible repeat (first | refine blk_drewN ?_ _ | refine blk_drew ?_ | refine blk_alloc ?_ _)); exact BK155.out)) : gb155 ≠ gb156)); have n12_ := Aside0.mk ((by rw [hg]; exact Nat.ne_of_gt (blk_lt (g := gb155) (o := .cells #[.bool false, .slice none 0 0] 59 (0, 0)) (by (with_reducible repeat (first | refine blk_drewN ?_ _ | refine blk_drew ?_ | refine blk_alloc ?_ _)); exact BK155.out)) : gb156 ≠ gb155)); clear BK153; clear BK154; clear BK155; clear HB; have BK153 := n0_; have BK154 := n1_; have BK155 := n2_; have HB := n3_; have BK156 := n4_; have GW156 := n5_; have GE156 := n6_; have NB153_156 := n7_; have NB156_153 := n8_; have NB154_156 := n9_; have NB156_154 := n10_; have NB155_156 := n11_; have NB156_155 := n12_; clear n0_ n1_ n2_ n3_ n4_ n5_ n6_ n7_ n8_ n9_ n10_ n11_ n12_; clear hb hbox hg; have hnb9 := NB153_154.out; have hnc9 := NB154_153.out; have hnb10 := NB153_155.out; have hnc10 := NB155_153.out; have hnb11 := NB153_156.out; have hnc11 := NB156_153.out; have hcz12_0 : w8.cell? ⟨gb153, 0, none⟩ = some (.bool a0_0) := (blk_cell BK153.out 0).trans rfl; have hcz12_1 : w8.cell? ⟨gb153, 1, none⟩ = some (.slice A0_1 l0_1.length c0_1) := (blk_cell BK153.out 1).trans rfl; have hfz12_0 := blk_frozen BK153.out 0; have hfz12_1 := blk_frozen BK153.out 1) | ((with_reducible refine gate_dst (N := 12) rfl ?_); refine Kd.R_make (Kd.int .i64) _ 3 rfl (N := 12) rfl 57 _ _ rfl (l0_1.length : Int) rfl rfl Try.underlying57 (.int .i64 0) 8 info3 rfl (by decide) (by omega) 0 (ok := fun _ => True) (okp := fun _ => True) rfl (fun _ hk => hk) trivial (of_decide_eq_true (by first | (with_reducible assumption) | assumption)) (Nat.le_trans (Nat.mul_le_mul_right _ (of_decide_eq_true (by first | (with_reducible assumption) | assumption) : (l0_1.length : Int).toNat ≤ 35184372088832)) (by omega)) (Below.refl _ _) (Nat.le_refl _) ?_; intro v158 w13 ho14 hb hg_ hnew_; clear hg_ hnew_; (first | rw [← Ny157.out] at ho14 | (simp only [Int.reduceToNat] at ho14; rw [← Ny157.out] at ho14)); have n0_ := Aside0.mk (Kd.R_lower (Kd.R_newM (M := fun k_ => (w.heap.size ≤ k_)) ho14 (below_size (by repeat (first | (with_reducible first | exact HB.out | apply below_alloc | apply pw_below_drewN | apply below_drew1 | refine below_set ?_ GE153.out | refine below_set ?_ GE154.out | refine below_set ?_ GE155.out | refine below_set ?_ GE156.out) | exact HB.out))) (fun k_ h_ => h_)) (below_size (by repeat (first | (with_reducible first | exact HB.out | apply below_alloc | apply pw_below_drewN | apply below_drew1 | refine below_set ?_ GE153.out | refine below_set ?_ GE154.out | refine below_set ?_ GE155.out | refine below_set ?_ GE156.out) | exact HB.out)))); have n1_ := Aside0.mk (blk_below (g := gb153) (o := .cells #[.bool a0_0, .slice A0_1 l0_1.length c0_1] 59 (0, 0)) (by (with_reducible repeat (first | refine blk_drewN ?_ _ | refine blk_drew ?_ | refine blk_alloc ?_ _)); exact BK153.out) hb); have n2_ := Aside0.mk (blk_below (g := gb154) (o := .cells #[.bool a1_0, .slice A1_1 l1_1.length c1_1] 59 (0, 0)) (by (with_reducible repeat (first | refine blk_drewN ?_ _ | refine blk_drew ?_ | refine blk_alloc ?_ _)); exact BK154.out) hb); have n3_ := Aside0.mk (blk_below (g := gb155) (o := .cells #[.bool false, .slice none 0 0] 59 (0, 0)) (by (with_reducible repeat (first | refine blk_drewN ?_ _ | refine blk_drew ?_ | refine blk_alloc ?_ _)); exact BK155.out) hb); have n4_ := Aside0.mk (blk_below (g := gb156) (o := .cells #[.bool false, .slice none 0 0] 59 (0, 0)) (by (with_reducible repeat (first | refine blk_drewN ?_ _ | refine blk_drew ?_ | refine blk_alloc ?_ _)); exact BK156.out) hb); have n5_ := Aside0.mk (below_step (by repeat (first | (with_reducible first | exact HB.out | apply below_alloc | apply pw_below_drewN | apply below_drew1 | refine below_set ?_ GE153.out | refine below_set ?_ GE154.out | refine below_set ?_ GE155.out | refine below_set ?_ GE156.out) | exact HB.out)) hb); clear BK153; clear BK154; clear BK155; clear BK156; clear HB; have HO159 := n0_; have BK153 := n1_; have BK154 := n2_; have BK155 := n3_; have BK156 := n4_; have HB := n5_; clear n0_ n1_ n2_ n3_ n4_ n5_; clear hb ho14) | ((with_reducible refine gate_dst (N := 7) rfl ?_); refine box_event ?hg (N := 7) ?hd (cs := #[.bool false, .slice none 0 0]) (t := 59) ?hr ?_; (case hd => rfl); (case hg => rfl); (case hr => first | (go_simp; done) | (go_simp; rfl)); intro gb160 hg w15 hbox hb; have n0_ := Aside0.mk (Kd.R_below (by (with_reducible repeat (first | apply Kd.R_alloc | apply Kd.R_drewN | apply Kd.R_drew)); exact HO159.out) hb); have n1_ := Aside0.mk (blk_below (g := gb153) (o := .cells #[.bool a0_0, .slice A0_1 l0_1.length c0_1] 59 (0, 0)) (by (with_reducible repeat (first | refine blk_drewN ?_ _ | refine blk_drew ?_ | refine blk_alloc ?_ _)); exact BK153.out) hb); have n2_ := Aside0.mk (blk_below (g := gb154) (o := .cells #[.bool a1_0, .slice A1_1 l1_1.length c1_1] 59 (0, 0)) (by (with_reducible repeat (first | refine blk_drewN ?_ _ | refine blk_drew ?_ | refine blk_alloc ?_ _)); exact BK154.out) hb); have n3_ := Aside0.mk (blk_below (g := gb155) (o := .cells #[.bool false, .slice none 0 0] 59 (0, 0)) (by (with_reducible repeat (first | refine blk_drewN ?_ _ | refine blk_drew ?_ | refine blk_alloc ?_ _)); exact BK155.out) hb); have n4_ := Aside0.mk (blk_below (g := gb156) (o := .cells #[.bool false, .slice none 0 0] 59 (0, 0)) (by (with_reducible repeat (first | refine blk_drewN ?_ _ | refine blk_drew ?_ | refine blk_alloc ?_ _)); exact BK156.out) hb); have n5_ := Aside0.mk (below_step (by repeat (first | (with_reducible first | exact HB.out | apply below_alloc | apply pw_below_drewN | apply below_drew1 | refine below_set ?_ GE153.out | refine below_set ?_ GE154.out | refine below_set ?_ GE155.out | refine below_set ?_ GE156.out) | exact HB.out)) hb); have n6_ := Aside0.mk (hbox); have n7_ := Aside0.mk ((by rw [hg]; exact (below_size (by repeat (first | (with_reducible first | exact HB.out | apply below_alloc | apply pw_below_drewN | apply below_drew1 | refine below_set ?_ GE153.out | refine below_set ?_ GE154.out | refine below_set ?_ GE155.out | refine below_set ?_ GE156.out) | exact HB.out))) : w.heap.size ≤ gb160)); have n8_ := Aside0.mk ((by rw [hg]; exact (below_size (by repeat (first | (with_reducible first | exact HB.out | apply below_alloc | apply pw_below_drewN | apply below_drew1 | refine below_set ?_ GE153.out | refine below_set ?_ GE154.out | refine below_set ?_ GE155.out | refine below_set ?_ GE156.out) | exact HB.out))) : w.heap.size ≤ gb160)); have n9_ := Aside0.mk ((by rw [hg]; exact Nat.ne_of_lt (blk_lt (g := gb153) (o := .cells #[.bool a0_0, .slice A0_1 l0_1.length c0_1] 59 (0, 0)) (by (with_reducible repeat (first | refine blk_drewN ?_ _ | refine blk_drew ?_ | refine blk_alloc ?_ _)); exact BK153.out)) : gb153 ≠ gb160)); have n10_ := Aside0.mk ((by rw [hg]; exact Nat.ne_of_gt (blk_lt (g := gb153) (o := .cells #[.bool a0_0, .slice A0_1 l0_1.length c0_1] 59 (0, 0)) (by (with_reducible repeat (first | refine blk_drewN ?_ _ | refine blk_drew ?_ | refine blk_alloc ?_ _)); exact BK153.out)) : gb160 ≠ gb153)); have n11_ := Aside0.mk ((by rw [hg]; exact Nat.ne_of_lt (blk_lt (g := gb154) (o := .cells #[.bool a1_0, .slice A1_1 l1_1.length c1_1] 59 (0, 0)) (by (with_reducible repeat (first | refine blk_drewN ?_ _ | refine blk_drew ?_ | refine blk_alloc ?_ _)); exact BK154.out)) : gb154 ≠ gb160)); have n12_ := Aside0.mk ((by rw [hg]; exact Nat.ne_of_gt (blk_lt (g := gb154) (o := .cells #[.bool a1_0, .slice A1_1 l1_1.length c1_1] 59 (0, 0)) (by (with_reducible repeat (first | refine blk_drewN ?_ _ | refine blk_drew ?_ | refine blk_alloc ?_ _)); exact BK154.out)) : gb160 ≠ gb154)); have n13_ := Aside0.mk ((by rw [hg]; exact Nat.ne_of_lt (blk_lt (g := gb155) (o := .cells #[.bool false, .slice none 0 0] 59 (0, 0)) (by (with_reducible repeat (first | refine blk_drewN ?_ _ | refine blk_drew ?_ | refine blk_alloc ?_ _)); exact BK155.out)) : gb155 ≠ gb160)); have n14_ := Aside0.mk ((by rw [hg]; exact Nat.ne_of_gt (blk_lt (g := gb155) (o := .cells #[.bool false, .slice none 0 0] 59 (0, 0)) (by (with_reducible repeat (first | refine blk_drewN ?_ _ | refine blk_drew ?_ | refine blk_alloc ?_ _)); exact BK155.out)) : gb160 ≠ gb155)); have n15_ := Aside0.mk ((by rw [hg]; exact Nat.ne_of_lt (blk_lt (g := gb156) (o := .cells #[.bool false, .slice none 0 0] 59 (0, 0)) (by (with_reducible repeat (first | refine blk_drewN ?_ _ | refine blk_drew ?_ | refine blk_alloc ?_ _)); exact BK156.out)) : gb156 ≠ gb160)); have n16_ := Aside0.mk ((by rw [hg]; exact Nat.ne_of_gt (blk_lt (g := gb156) (o := .cells #[.bool false, .slice none 0 0] 59 (0, 0)) (by (with_reducible repeat (first | refine blk_drewN ?_ _ | refine blk_drew ?_ | refine blk_alloc ?_ _)); exact BK156.out)) : gb160 ≠ gb156)); clear HO159; clear BK153; clear BK154; clear BK155; clear BK156; clear HB; have HO159 := n0_; have BK153 := n1_; have BK154 := n2_; have BK155 := n3_; have BK156 := n4_; have HB := n5_; have BK160 := n6_; have GW160 := n7_; have GE160 := n8_; have NB153_160 := n9_; have NB160_153 := n10_; have NB154_160 := n11_; have NB160_154 := n12_; have NB155_160 := n13_; have NB160_155 := n14_; have NB156_160 := n15_; have NB160_156 := n16_; clear n0_ n1_ n2_ n3_ n4_ n5_ n6_ n7_ n8_ n9_ n10_ n11_ n12_ n13_ n14_ n15_ n16_; clear hb hbox hg; have hnb16 := NB160_153.out; have hnc16 := NB153_160.out; have hnb17 := NB160_154.out; have hnc17 := NB154_160.out; have hnb18 := NB160_155.out; have hnc18 := NB155_160.out; have hnb19 := NB160_156.out; have hnc19 := NB156_160.out; have hcz20_0 : w15.cell? ⟨gb160, 0, none⟩ = some (.bool false) := (blk_cell BK160.out 0).trans rfl; have hcz20_1 : w15.cell? ⟨gb160, 1, none⟩ = some (.slice none 0 0) := (blk_cell BK160.out 1).trans rfl; have hfz20_0 := blk_frozen BK160.out 0; have hfz20_1 := blk_frozen BK160.out 1; have hcz21_0 : w15.cell? ⟨gb153, 0, none⟩ = some (.bool a0_0) := (blk_cell BK153.out 0).trans rfl; have hcz21_1 : w15.cell? ⟨gb153, 1, none⟩ = some (.slice A0_1 l0_1.length c0_1) := (blk_cell BK153.out 1).trans rfl; have hfz21_0 := blk_frozen BK153.out 0; have hfz21_1 := blk_frozen BK153.out 1))
      go_loopg [8] k (fun kq v8 w' => ∃ (x6_1 : List Int) (x8_1 : Int) (x161000_1 : Bool) (x161001_1 : List Int) (u161001 : Value), v8 = .int .i64 x8_1 ∧ Aside0 (ashlarref01_Over.l0 kq x6_1 x8_1 a0_0 l0_1 a1_0 l1_1 x161000_1 x161001_1 = some (r1, r2, r3, r4)) ∧ Aside0 (kq ≤ k) ∧ Aside0 (Kd.R (Kd.int .i64) 3 w' w.heap.size (fun k_ => (w.heap.size ≤ k_)) v158 x6_1) ∧ Aside0 (Kd.V (Kd.int .i64) 3 w' w.heap.size (fun k_ => (w.heap.size ≤ k_) ∧ some k_ ≠ (v158 : Value).ownBlock ∧ k_ ≠ gb153 ∧ k_ ≠ gb154 ∧ k_ ≠ gb155 ∧ k_ ≠ gb156 ∧ k_ ≠ gb160) u161001 x161001_1) ∧ Aside0 (w'.heap[gb153]? = some (.cells #[.bool a0_0, (.slice A0_1 l0_1.length c0_1)] 59 (0, 0))) ∧ Aside0 (w'.heap[gb154]? = some (.cells #[.bool a1_0, (.slice A1_1 l1_1.length c1_1)] 59 (0, 0))) ∧ Aside0 (w'.heap[gb155]? = some (.cells #[.bool false, (.slice none 0 0)] 59 (0, 0))) ∧ Aside0 (w'.heap[gb156]? = some (.cells #[.bool false, (.slice none 0 0)] 59 (0, 0))) ∧ Aside0 (w'.heap[gb160]? = some (.cells #[.bool x161000_1, u161001] 59 (0, 0))) ∧ Aside0 (Below w.heap.size w w'))
      case atStart => exact ⟨(y157), (wrap64 ((l0_1.length : Int) - 1)), (false), (([] : List Int)), (.slice none 0 0), (by first | rfl | (simp; done) | (simp [*]; done)), H', ⟨Nat.le_refl _⟩, ⟨by (with_reducible repeat (first | apply Kd.R_alloc | apply Kd.R_drewN | apply Kd.R_drew)); exact Kd.R_mono (Kd.R_far (p := ⟨gb160, 1, none⟩) (Kd.R_far (p := ⟨gb160, 0, none⟩) (Kd.R_types HO159.out BK160.out (by decide)) (fun _ hk => hk.2) (.bool false)) (fun _ hk => hk.2) (.slice none 0 0)) (fun _ hk => hk.1.1)⟩, ⟨Kd.V_nil _ _ _ _ _⟩, ⟨by (with_reducible repeat (first | refine blk_drewN ?_ _ | refine blk_drew ?_ | refine blk_alloc ?_ _)); refine blk_far ?_ NB153_160.out _; (with_reducible repeat (first | refine blk_drewN ?_ _ | refine blk_drew ?_ | refine blk_alloc ?_ _)); refine blk_far ?_ NB153_160.out _; (with_reducible repeat (first | refine blk_drewN ?_ _ | refine blk_drew ?_ | refine blk_alloc ?_ _)); exact BK153.out⟩, ⟨by (with_reducible repeat (first | refine blk_drewN ?_ _ | refine blk_drew ?_ | refine blk_alloc ?_ _)); refine blk_far ?_ NB154_160.out _; (with_reducible repeat (first | refine blk_drewN ?_ _ | refine blk_drew ?_ | refine blk_alloc ?_ _)); refine blk_far ?_ NB154_160.out _; (with_reducible repeat (first | refine blk_drewN ?_ _ | refine blk_drew ?_ | refine blk_alloc ?_ _)); exact BK154.out⟩, ⟨by (with_reducible repeat (first | refine blk_drewN ?_ _ | refine blk_drew ?_ | refine blk_alloc ?_ _)); refine blk_far ?_ NB155_160.out _; (with_reducible repeat (first | refine blk_drewN ?_ _ | refine blk_drew ?_ | refine blk_alloc ?_ _)); refine blk_far ?_ NB155_160.out _; (with_reducible repeat (first | refine blk_drewN ?_ _ | refine blk_drew ?_ | refine blk_alloc ?_ _)); exact BK155.out⟩, ⟨by (with_reducible repeat (first | refine blk_drewN ?_ _ | refine blk_drew ?_ | refine blk_alloc ?_ _)); refine blk_far ?_ NB156_160.out _; (with_reducible repeat (first | refine blk_drewN ?_ _ | refine blk_drew ?_ | refine blk_alloc ?_ _)); refine blk_far ?_ NB156_160.out _; (with_reducible repeat (first | refine blk_drewN ?_ _ | refine blk_drew ?_ | refine blk_alloc ?_ _)); exact BK156.out⟩, ⟨by (with_reducible repeat (first | refine blk_drewN ?_ _ | refine blk_drew ?_ | refine blk_alloc ?_ _)); refine blk_put (cs := #[.bool false, .slice none 0 0]) ?_ 1 _ rfl; (with_reducible repeat (first | refine blk_drewN ?_ _ | refine blk_drew ?_ | refine blk_alloc ?_ _)); refine blk_put (cs := #[.bool false, .slice none 0 0]) ?_ 0 _ rfl; (with_reducible repeat (first | refine blk_drewN ?_ _ | refine blk_drew ?_ | refine blk_alloc ?_ _)); exact BK160.out⟩, ⟨by repeat (first | (with_reducible first | exact HB.out | apply below_alloc | apply pw_below_drewN | apply below_drew1 | refine below_set ?_ GE153.out | refine below_set ?_ GE154.out | refine below_set ?_ GE155.out | refine below_set ?_ GE156.out | refine below_set ?_ GE160.out) | exact HB.out)⟩⟩
      case round =>
        clear H'
        try clear c1
        try clear p2
        try clear c3
        try clear c3b0
        try clear c3b1
        try clear c4
        try clear c4b0
        try clear c4b1
        try clear c5
        try clear p6
        try clear c9
        try clear c10
        try clear c11
        try clear c16
        try clear c17
        try clear c18
        try clear c19
        try clear hcz12_0
        try clear hcz12_1
        try clear hcz20_0
        try clear hcz20_1
        try clear hcz21_0
        try clear hcz21_1
        try clear hfz12_0
        try clear hfz12_1
        try clear hfz20_0
        try clear hfz20_1
        try clear hfz21_0
        try clear hfz21_1
        obtain ⟨x6_1, x8_1, x161000_1, x161001_1, u161001, rfl, HA, HK1, HO_6, HO_161001, BK153, BK154, BK155, BK156, BK160, HB⟩ := hrel
        cases gk with
        | zero => exact absurd HA.out (by simp [ashlarref01_Over.l0])
        | succ k1 =>
          have H := HA.out
          clear HA
          simp only [ashlarref01_Over.l0] at H
          by_cases c22 : x8_1 ≥ 0
          · rw [if_pos c22] at H
            have c22b0 : decide (0 ≤ x8_1) = true := decide_eq_true c22
            clear c22
            by_cases c23 : 0 ≤ x8_1
            · rw [if_pos c23] at H
              have c23b0 : decide (0 ≤ x8_1) = true := decide_eq_true c23
              clear c23
              by_cases c24 : x8_1 < (l0_1.length : Int)
              · rw [if_pos c24] at H
                have c24b0 : decide (x8_1 < (l0_1.length : Int)) = true := decide_eq_true c24
                clear c24
                obtain ⟨y166, hy166⟩ : ∃ y_ : List Int, y_ = (([rd l0_1 x8_1] : List Int)) := ⟨_, rfl⟩
                replace H : (if y166.length + x161001_1.length < 17592186044416 then ((ashlarref01_cut.f false (y166 ++ x161001_1)).bind fun bt172 => (ashlarref01_Over.l1 k1 x6_1 x8_1 a0_0 l0_1 a1_0 l1_1 bt172.1 bt172.2)) else (none)) = some (r1, r2, r3, r4) := by first | (rw [hy166]; with_reducible exact H) | (have H2_ := (Option.bind_some _ _).symm.trans H; rw [hy166]; with_reducible exact H2_) | (have H2_ := (Option.bind_some _ _).symm.trans H; with_reducible exact H2_) | with_reducible exact H | (rw [hy166]; exact H) | exact H
                have Ny166 := Aside0.mk hy166
                clear hy166
                by_cases c25 : y166.length + x161001_1.length < 17592186044416
                · rw [if_pos c25] at H
                  have LMc25 := Aside0.mk c25
                  clear c25
                  obtain ⟨y169, hy169⟩ : ∃ y_ : List Int, y_ = (y166 ++ x161001_1) := ⟨_, rfl⟩
                  replace H : ((ashlarref01_cut.f false y169).bind fun bt172 => (ashlarref01_Over.l1 k1 x6_1 x8_1 a0_0 l0_1 a1_0 l1_1 bt172.1 bt172.2)) = some (r1, r2, r3, r4) := by first | (rw [hy169]; with_reducible exact H) | (have H2_ := (Option.bind_some _ _).symm.trans H; rw [hy169]; with_reducible exact H2_) | (have H2_ := (Option.bind_some _ _).symm.trans H; with_reducible exact H2_) | with_reducible exact H | (rw [hy169]; exact H) | exact H
                  have Ny169 := Aside0.mk hy169
                  clear hy169
                  replace H := Option.bind_eq_some_iff.mp H
                  obtain ⟨⟨t172, t173⟩, A260, H⟩ := H
                  replace H : (ashlarref01_Over.l1 k1 x6_1 x8_1 a0_0 l0_1 a1_0 l1_1 t172 t173) = some (r1, r2, r3, r4) := H
                  have A26 := Aside0.mk A260
                  clear A260
                  have H' := Aside0.mk H
                  clear H
                  try go_wp2
                  have n0_ := Aside0.mk (Kd.R_drew HO_6.out)
                  have n1_ := Aside0.mk (Kd.V_drew HO_161001.out)
                  have n2_ := Aside0.mk (blk_drew BK153.out)
                  have n3_ := Aside0.mk (blk_drew BK154.out)
                  have n4_ := Aside0.mk (blk_drew BK155.out)
                  have n5_ := Aside0.mk (blk_drew BK156.out)
                  have n6_ := Aside0.mk (blk_drew BK160.out)
                  have n7_ := Aside0.mk (below_drew1 HB.out)
                  clear HO_6
                  clear HO_161001
                  clear BK153
                  clear BK154
                  clear BK155
                  clear BK156
                  clear BK160
                  clear HB
                  have HO_6 := n0_
                  have HO_161001 := n1_
                  have BK153 := n2_
                  have BK154 := n3_
                  have BK155 := n4_
                  have BK156 := n5_
                  have BK160 := n6_
                  have HB := n7_
                  clear n0_ n1_ n2_ n3_ n4_ n5_ n6_ n7_
                  have p165 : 0 ≤ (x8_1 : Int) := of_decide_eq_true (by first | (with_reducible assumption) | assumption)
                  have q165 : x8_1 < (l0_1.length : Int) := of_decide_eq_true (by first | (with_reducible assumption) | assumption)
                  obtain ⟨ad165, e165, hx165_0⟩ := Kd.at_int HR0_1.out x8_1 p165 q165
                  have hw165_0 := hx165_0
                  cases e165
                  replace hx165_0 := (HB.out.cell (World.block_lt_of_cell? w _ hx165_0)).trans hx165_0
                  replace p165 := eq_true p165
                  replace q165 := eq_true q165
                  refine start_ (n := 12) (S := fun w' => w'.cell? ⟨gb153, 0, none⟩ = some (.bool a0_0) ∧ w'.cell? ⟨gb153, 1, none⟩ = some (.slice (some ad165) l0_1.length c0_1) ∧ w'.cell? ⟨gb160, 0, none⟩ = some (.bool x161000_1) ∧ w'.cell? ⟨gb160, 1, none⟩ = some (u161001) ∧ w'.cell? (ad165.add (x8_1).toNat) = some (.int .i64 (rd l0_1 x8_1))) (ds := [11]) #[false, false, false, false, false, false, false, false, false, false, false, false] (by kernel_rfl) rfl rfl ⟨(blk_cell BK153.out 0).trans rfl, (blk_cell BK153.out 1).trans rfl, (blk_cell BK160.out 0).trans rfl, (blk_cell BK160.out 1).trans rfl, ((HB.out.cell (World.block_lt_of_cell? w _ hw165_0)).trans hw165_0)⟩ (fun hHeld => ?_); refine with_tabW ashlarref01_Over.tab6 ashlarref01_Over.bits6 (fun HT_ HW_ => ?_)
                  generalize wr.drew = w27 at HO_6 HO_161001 BK153 BK154 BK155 BK156 BK160 HB hx165_0 hHeld ⊢
                  refine pure_ (i := 0) (N := some 22) (v := ?_) (a' := ?_) #[true, false, false, false, false, false, false, false, false, false, false, false] rfl rfl (any_of HT_.out (by kernel_rfl)) (fun _ _ _ h => h) (Or.inl ⟨by rfl, ?_⟩) ?_ ?_
                  rotate_left
                  · intro w'
                    go_simp
                    with_reducible rfl
                  rotate_left
                  · simp only [Act.put, List.setIfInBounds_toArray, List.set_cons_zero, List.set_cons_succ, i64_w, i32_w]
                    rfl
                  refine pure_ (i := 2) (N := some 24) (v := ?_) (a' := ?_) #[true, false, true, false, false, false, false, false, false, false, false, false] rfl rfl (any_of HT_.out (by kernel_rfl)) (fun _ _ _ h => h) (Or.inl ⟨by rfl, ?_⟩) ?_ ?_
                  rotate_left
                  · intro w'
                    go_simp
                    with_reducible rfl
                  rotate_left
                  · simp only [Act.put, List.setIfInBounds_toArray, List.set_cons_zero, List.set_cons_succ, i64_w, i32_w]
                    rfl
                  refine pure_ (i := 6) (N := some 28) (v := ?_) (a' := ?_) #[true, false, true, false, false, false, true, false, false, false, false, false] rfl rfl (any_of HT_.out (by kernel_rfl)) (fun _ _ _ h => h) (Or.inl ⟨by rfl, ?_⟩) ?_ ?_
                  rotate_left
                  · intro w'
                    go_simp
                    with_reducible rfl
                  rotate_left
                  · simp only [Act.put, List.setIfInBounds_toArray, List.set_cons_zero, List.set_cons_succ, i64_w, i32_w]
                    rfl
                  refine take_ (i := 1) (N := some 23) (v := ?_) (a' := ?_) #[true, true, true, false, false, false, true, false, false, false, false, false] rfl rfl (take_ofW HT_.out HW_.out (by kernel_rfl)) (fun _ _ _ h => h) (Or.inl ⟨by rfl, ?_⟩) hHeld ?_ ?_
                  rotate_left
                  · rintro w' ⟨s0, s1, s2, s3, s4⟩
                    go_simp
                    with_reducible rfl
                  rotate_left
                  · simp only [Act.put, List.setIfInBounds_toArray, List.set_cons_zero, List.set_cons_succ, i64_w, i32_w]
                    rfl
                  refine pure_ (i := 3) (N := some 25) (v := ?_) (a' := ?_) #[true, true, true, true, false, false, true, false, false, false, false, false] rfl rfl (any_of HT_.out (by kernel_rfl)) (fun _ _ _ h => h) (Or.inl ⟨by rfl, ?_⟩) ?_ ?_
                  rotate_left
                  · intro w'
                    go_simp
                    with_reducible rfl
                  rotate_left
                  · simp only [Act.put, List.setIfInBounds_toArray, List.set_cons_zero, List.set_cons_succ, i64_w, i32_w]
                    rfl
                  refine take_ (i := 4) (N := some 26) (v := ?_) (a' := ?_) #[true, true, true, true, true, false, true, false, false, false, false, false] rfl rfl (take_ofW HT_.out HW_.out (by kernel_rfl)) (fun _ _ _ h => h) (Or.inl ⟨by rfl, ?_⟩) hHeld ?_ ?_
                  rotate_left
                  · rintro w' ⟨s0, s1, s2, s3, s4⟩
                    go_simp
                    with_reducible rfl
                  rotate_left
                  · simp only [Act.put, List.setIfInBounds_toArray, List.set_cons_zero, List.set_cons_succ, i64_w, i32_w]
                    rfl
                  refine take_ (i := 7) (N := some 29) (v := ?_) (a' := ?_) #[true, true, true, true, true, false, true, true, false, false, false, false] rfl rfl (take_ofW HT_.out HW_.out (by kernel_rfl)) (fun _ _ _ h => h) (Or.inl ⟨by rfl, ?_⟩) hHeld ?_ ?_
                  rotate_left
                  · rintro w' ⟨s0, s1, s2, s3, s4⟩
                    go_simp
                    with_reducible rfl
                  rotate_left
                  · simp only [Act.put, List.setIfInBounds_toArray, List.set_cons_zero, List.set_cons_succ, i64_w, i32_w]
                    rfl
                  refine one_ (i := 5) (N := some 27) #[true, true, true, true, true, true, true, true, false, false, false, false] rfl rfl (one_of HT_.out (by kernel_rfl)) (by decide) (fun K hK => ?_)
                  refine Kd.R_lit_step (Kd.int .i64) _ 3 ?hg (N := 27) ?hd (xs := ([rd l0_1 x8_1] : List Int)) (inner := [.int .i64 (rd l0_1 x8_1)]) (ok := fun _ => True) (okp := fun _ => True) ?hr ?hp (fun _ hk => hk) trivial (Below.refl _ _) (Nat.le_refl _) (by simp) ?_; (case hd => rfl); (case hg => rfl); (case hr => first | (go_simp; done) | (go_simp; rfl)); (case hp => exact (Reps.one (show Kd.M (Kd.int .i64) _ _ _ (rd l0_1 x8_1) [.int .i64 (rd l0_1 x8_1)] from rfl) (Reps.none _ _)))
                  intro v167 w28 ho29 hb hg_ hnew_
                  clear hg_ hnew_
                  (first | rw [← Ny166.out] at ho29 | (simp only [Int.reduceToNat] at ho29; rw [← Ny166.out] at ho29))
                  have n0_ := Aside0.mk (Kd.R_elder' (by (with_reducible repeat (first | apply Kd.R_alloc | apply Kd.R_drewN | apply Kd.R_drew)); exact HO_6.out) (Kd.R_base ho29) hb)
                  have n1_ := Aside0.mk (Kd.V_elder' (by (with_reducible repeat (first | apply Kd.V_alloc | apply Kd.V_drewN | apply Kd.V_drew)); exact HO_161001.out) (Kd.R_base ho29) hb)
                  have n2_ := Aside0.mk (Kd.R_lower (Kd.R_new' (Kd.R_newM (M := fun k_ => (w.heap.size ≤ k_)) ho29 (below_size (by repeat (first | (with_reducible first | exact HB.out | apply below_alloc | apply pw_below_drewN | apply below_drew1 | refine below_set ?_ GE153.out | refine below_set ?_ GE154.out | refine below_set ?_ GE155.out | refine below_set ?_ GE156.out | refine below_set ?_ GE160.out) | exact HB.out))) (fun k_ h_ => h_)) (Kd.R_lt (by (with_reducible repeat (first | apply Kd.R_alloc | apply Kd.R_drewN | apply Kd.R_drew)); exact HO_6.out))) (below_size (by repeat (first | (with_reducible first | exact HB.out | apply below_alloc | apply pw_below_drewN | apply below_drew1 | refine below_set ?_ GE153.out | refine below_set ?_ GE154.out | refine below_set ?_ GE155.out | refine below_set ?_ GE156.out | refine below_set ?_ GE160.out) | exact HB.out))))
                  have n3_ := Aside0.mk (blk_below (g := gb153) (o := .cells #[.bool a0_0, .slice (some ad165) l0_1.length c0_1] 59 (0, 0)) (by (with_reducible repeat (first | refine blk_drewN ?_ _ | refine blk_drew ?_ | refine blk_alloc ?_ _)); exact BK153.out) hb)
                  have n4_ := Aside0.mk (blk_below (g := gb154) (o := .cells #[.bool a1_0, .slice A1_1 l1_1.length c1_1] 59 (0, 0)) (by (with_reducible repeat (first | refine blk_drewN ?_ _ | refine blk_drew ?_ | refine blk_alloc ?_ _)); exact BK154.out) hb)
                  have n5_ := Aside0.mk (blk_below (g := gb155) (o := .cells #[.bool false, .slice none 0 0] 59 (0, 0)) (by (with_reducible repeat (first | refine blk_drewN ?_ _ | refine blk_drew ?_ | refine blk_alloc ?_ _)); exact BK155.out) hb)
                  have n6_ := Aside0.mk (blk_below (g := gb156) (o := .cells #[.bool false, .slice none 0 0] 59 (0, 0)) (by (with_reducible repeat (first | refine blk_drewN ?_ _ | refine blk_drew ?_ | refine blk_alloc ?_ _)); exact BK156.out) hb)
                  have n7_ := Aside0.mk (blk_below (g := gb160) (o := .cells #[.bool x161000_1, u161001] 59 (0, 0)) (by (with_reducible repeat (first | refine blk_drewN ?_ _ | refine blk_drew ?_ | refine blk_alloc ?_ _)); exact BK160.out) hb)
                  have n8_ := Aside0.mk (below_step (by repeat (first | (with_reducible first | exact HB.out | apply below_alloc | apply pw_below_drewN | apply below_drew1 | refine below_set ?_ GE153.out | refine below_set ?_ GE154.out | refine below_set ?_ GE155.out | refine below_set ?_ GE156.out | refine below_set ?_ GE160.out) | exact HB.out)) hb)
                  clear HO_6
                  clear HO_161001
                  clear BK153
                  clear BK154
                  clear BK155
                  clear BK156
                  clear BK160
                  clear HB
                  have HO_6 := n0_
                  have HO_161001 := n1_
                  have HO168 := n2_
                  have BK153 := n3_
                  have BK154 := n4_
                  have BK155 := n5_
                  have BK156 := n6_
                  have BK160 := n7_
                  have HB := n8_
                  clear n0_ n1_ n2_ n3_ n4_ n5_ n6_ n7_ n8_
                  clear hb ho29
                  obtain ⟨Ao31, co31, eo31⟩ := Kd.V_slice HO_161001.out
                  (first | subst eo31 | (injection eo31 with f1_ f2_ f3_; have f4_ := f1_.symm; have f5_ := f3_.symm; clear f1_ f2_ f3_; subst f4_; subst f5_))
                  refine hK.out _ _ ⟨(blk_cell BK153.out 0).trans rfl, (blk_cell BK153.out 1).trans rfl, (blk_cell BK160.out 0).trans rfl, (blk_cell BK160.out 1).trans rfl, ((HB.out.cell (World.block_lt_of_cell? w _ hw165_0)).trans hw165_0)⟩ (fun hHeld => ?_)
                  clear hK K
                  refine norm_ (a' := ?_) ?_ ?_
                  rotate_left
                  · show Act.put _ (some 27) _ = _
                    simp only [Act.put, List.setIfInBounds_toArray, List.set_cons_zero, List.set_cons_succ, i64_w, i32_w]
                    rfl
                  refine one_ (i := 8) (N := some 30) #[true, true, true, true, true, true, true, true, true, false, false, false] rfl rfl (one_of HT_.out (by kernel_rfl)) (by decide) (fun K hK => ?_)
                  refine Kd.R_append_rows_step (Kd.int .i64) (w0 := w) w.heap.size (by rfl) (.tmp 27) (.tmp 29) 57 3 (.int .i64 0) 8 rfl Try.underlying57 info3 rfl (by decide) (by omega) v167 y166 x161001_1 _ _ _ (fun k_ => (w.heap.size ≤ k_) ∧ some k_ ≠ (v158 : Value).ownBlock) (fun _ => False) rfl rfl ?aO ?aR (fun _ _ h => h) (fun _ h => h.elim) ?aF ?aB ?aS ?aL ?_
                  (case aR => repeat (first | exact (Kd.V_reads' HO_161001.out).2.2 | (with_reducible refine Kd.C_alloc ?_ _) | (with_reducible refine Kd.C_drewN ?_ _) | (with_reducible refine Kd.C_drew ?_)))
                  (case aB => exact (by repeat (first | (with_reducible first | exact HB.out | apply below_alloc | apply pw_below_drewN | apply below_drew1 | refine below_set ?_ GE153.out | refine below_set ?_ GE154.out | refine below_set ?_ GE155.out | refine below_set ?_ GE156.out | refine below_set ?_ GE160.out) | exact HB.out)))
                  (case aF => exact (fun k_ hk => ⟨(Nat.le_trans (below_size (by repeat (first | (with_reducible first | exact HB.out | apply below_alloc | apply pw_below_drewN | apply below_drew1 | refine below_set ?_ GE153.out | refine below_set ?_ GE154.out | refine below_set ?_ GE155.out | refine below_set ?_ GE156.out | refine below_set ?_ GE160.out) | exact HB.out))) hk), Kd.fresh' (Kd.R_lt (by (with_reducible repeat (first | apply Kd.R_alloc | apply Kd.R_drewN | apply Kd.R_drew)); exact HO_6.out)) k_ hk⟩))
                  (case aO => exact (by (with_reducible repeat (first | apply Kd.R_alloc | apply Kd.R_drewN | apply Kd.R_drew)); exact Kd.R_mono HO168.out (fun _ hk => ⟨hk.1.1, hk.2⟩)))
                  (case aS => exact (below_size (by repeat (first | (with_reducible first | exact HB.out | apply below_alloc | apply pw_below_drewN | apply below_drew1 | refine below_set ?_ GE153.out | refine below_set ?_ GE154.out | refine below_set ?_ GE155.out | refine below_set ?_ GE156.out | refine below_set ?_ GE160.out) | exact HB.out))))
                  (case aL => have := LMc25.out; omega)
                  intro v170 w30 ho hb hg hat
                  rw [← Ny169.out] at ho
                  have n0_ := Aside0.mk (Kd.R_after (ok := (fun k_ => (w.heap.size ≤ k_))) (by (with_reducible repeat (first | apply Kd.R_alloc | apply Kd.R_drewN | apply Kd.R_drew)); exact HO_6.out) hg hat)
                  have n1_ := Aside0.mk (Kd.V_afterv (ok := (fun k_ => (w.heap.size ≤ k_) ∧ some k_ ≠ (v158 : Value).ownBlock ∧ k_ ≠ gb153 ∧ k_ ≠ gb154 ∧ k_ ≠ gb155 ∧ k_ ≠ gb156 ∧ k_ ≠ gb160)) (by (with_reducible repeat (first | apply Kd.V_alloc | apply Kd.V_drewN | apply Kd.V_drew)); exact HO_161001.out) hg hat)
                  have n2_ := Aside0.mk (blk_grown (g := gb153) (o := .cells #[.bool a0_0, .slice (some ad165) l0_1.length c0_1] 59 (0, 0)) (by (with_reducible repeat (first | refine blk_drewN ?_ _ | refine blk_drew ?_ | refine blk_alloc ?_ _)); exact BK153.out) hg (Kd.R_ne HO168.out BK153.out (by decide)))
                  have n3_ := Aside0.mk (blk_grown (g := gb154) (o := .cells #[.bool a1_0, .slice A1_1 l1_1.length c1_1] 59 (0, 0)) (by (with_reducible repeat (first | refine blk_drewN ?_ _ | refine blk_drew ?_ | refine blk_alloc ?_ _)); exact BK154.out) hg (Kd.R_ne HO168.out BK154.out (by decide)))
                  have n4_ := Aside0.mk (blk_grown (g := gb155) (o := .cells #[.bool false, .slice none 0 0] 59 (0, 0)) (by (with_reducible repeat (first | refine blk_drewN ?_ _ | refine blk_drew ?_ | refine blk_alloc ?_ _)); exact BK155.out) hg (Kd.R_ne HO168.out BK155.out (by decide)))
                  have n5_ := Aside0.mk (blk_grown (g := gb156) (o := .cells #[.bool false, .slice none 0 0] 59 (0, 0)) (by (with_reducible repeat (first | refine blk_drewN ?_ _ | refine blk_drew ?_ | refine blk_alloc ?_ _)); exact BK156.out) hg (Kd.R_ne HO168.out BK156.out (by decide)))
                  have n6_ := Aside0.mk (blk_grown (g := gb160) (o := .cells #[.bool x161000_1, .slice Ao31 x161001_1.length co31] 59 (0, 0)) (by (with_reducible repeat (first | refine blk_drewN ?_ _ | refine blk_drew ?_ | refine blk_alloc ?_ _)); exact BK160.out) hg (Kd.R_ne HO168.out BK160.out (by decide)))
                  have n7_ := Aside0.mk (hb)
                  have n8_ := Aside0.mk (ho)
                  clear HO_6
                  clear HO_161001
                  clear BK153
                  clear BK154
                  clear BK155
                  clear BK156
                  clear BK160
                  clear HB
                  clear HO168
                  have HO_6 := n0_
                  have HO_161001 := n1_
                  have BK153 := n2_
                  have BK154 := n3_
                  have BK155 := n4_
                  have BK156 := n5_
                  have BK160 := n6_
                  have HB := n7_
                  have HO171 := n8_
                  clear n0_ n1_ n2_ n3_ n4_ n5_ n6_ n7_ n8_
                  clear ho hb hg hat
                  obtain ⟨Ao32, co32, eo32⟩ := Kd.R_slice HO171.out
                  (first | subst eo32 | (injection eo32 with f1_ f2_ f3_; have f4_ := f1_.symm; have f5_ := f3_.symm; clear f1_ f2_ f3_; subst f4_; subst f5_))
                  refine hK.out _ _ ⟨(blk_cell BK153.out 0).trans rfl, (blk_cell BK153.out 1).trans rfl, (blk_cell BK160.out 0).trans rfl, (blk_cell BK160.out 1).trans rfl, ((HB.out.cell (World.block_lt_of_cell? w _ hw165_0)).trans hw165_0)⟩ (fun hHeld => ?_)
                  clear hK K
                  refine norm_ (a' := ?_) ?_ ?_
                  rotate_left
                  · show Act.put _ (some 30) _ = _
                    simp only [Act.put, List.setIfInBounds_toArray, List.set_cons_zero, List.set_cons_succ, i64_w, i32_w]
                    rfl
                  refine pure_ (i := 9) (N := some 31) (v := ?_) (a' := ?_) #[true, true, true, true, true, true, true, true, true, true, false, false] rfl rfl (any_of HT_.out (by kernel_rfl)) (fun _ _ _ h => h) (Or.inl ⟨by rfl, ?_⟩) ?_ ?_
                  rotate_left
                  · intro w'
                    go_simp
                    with_reducible rfl
                  rotate_left
                  · simp only [Act.put, List.setIfInBounds_toArray, List.set_cons_zero, List.set_cons_succ, i64_w, i32_w]
                    rfl
                  refine one_ (i := 10) (N := some 32) #[true, true, true, true, true, true, true, true, true, true, true, false] rfl rfl (one_of HT_.out (by kernel_rfl)) (by decide) (fun K hK => ?_)
                  refine goes_ Try.func51 (by kernel_rfl) rfl #[.agg #[.bool false, .slice Ao32 y169.length co32]] (by rfl) rfl rfl (by (try simp only [List.map_toArray, List.map_cons, List.map_nil]); first | done | rfl | (simp only [List.length_drop, List.length_take]; rfl)) ?_
                  with_reducible refine (ashlarref01_cut.calls false (fun k_ => some k_ = (.slice Ao32 y169.length co32 : Value).ownBlock) _ _ y169 t172 t173 _ ?side1 A26.out).mono ?_
                  (case side1 => exact Kd.R_V (Kd.R_tight rfl (Kd.R_types (Kd.R_types (Kd.R_types (Kd.R_types (Kd.R_types (HO171.out) BK153.out (by decide)) BK154.out (by decide)) BK155.out (by decide)) BK156.out (by decide)) BK160.out (by decide))))
                  rintro e w33 ⟨v174, rfl, ho0, hb⟩
                  refine ⟨_, rfl, ?_⟩
                  have n0_ := Aside0.mk (Kd.R_below (by (with_reducible repeat (first | apply Kd.R_alloc | apply Kd.R_drewN | apply Kd.R_drew)); exact HO_6.out) hb)
                  have n1_ := Aside0.mk (Kd.V_below (by (with_reducible repeat (first | apply Kd.V_alloc | apply Kd.V_drewN | apply Kd.V_drew)); exact HO_161001.out) hb)
                  have n2_ := Aside0.mk (Kd.R_below (by (with_reducible repeat (first | apply Kd.R_alloc | apply Kd.R_drewN | apply Kd.R_drew)); exact HO171.out) hb)
                  have n3_ := Aside0.mk (Kd.V_lower (Kd.V_mono (ok' := fun k_ => (w.heap.size ≤ k_) ∧ some k_ ≠ (v158 : Value).ownBlock ∧ k_ ≠ gb153 ∧ k_ ≠ gb154 ∧ k_ ≠ gb155 ∧ k_ ≠ gb156 ∧ k_ ≠ gb160) ho0 (fun k_ hk_ => ⟨Or.elim hk_ (fun hs_ => ((Kd.R_types (Kd.R_types (Kd.R_types (Kd.R_types (Kd.R_types (HO171.out) BK153.out (by decide)) BK154.out (by decide)) BK155.out (by decide)) BK156.out (by decide)) BK160.out (by decide)).1 k_ hs_.symm).1.1.1.1.1.1) (fun hn_ => (Nat.le_trans (below_size (by repeat (first | (with_reducible first | exact HB.out | apply below_alloc | apply pw_below_drewN | apply below_drew1 | refine below_set ?_ GE153.out | refine below_set ?_ GE154.out | refine below_set ?_ GE155.out | refine below_set ?_ GE156.out | refine below_set ?_ GE160.out) | exact HB.out))) hn_)), Or.elim hk_ (fun hs_ => ((Kd.R_types (Kd.R_types (Kd.R_types (Kd.R_types (Kd.R_types (HO171.out) BK153.out (by decide)) BK154.out (by decide)) BK155.out (by decide)) BK156.out (by decide)) BK160.out (by decide)).1 k_ hs_.symm).1.1.1.1.1.2) (fun hn_ => (Kd.fresh' (Kd.R_lt (by (with_reducible repeat (first | apply Kd.R_alloc | apply Kd.R_drewN | apply Kd.R_drew)); exact HO_6.out)) k_ hn_)), Or.elim hk_ (fun hs_ => ((Kd.R_types (Kd.R_types (Kd.R_types (Kd.R_types (Kd.R_types (HO171.out) BK153.out (by decide)) BK154.out (by decide)) BK155.out (by decide)) BK156.out (by decide)) BK160.out (by decide)).1 k_ hs_.symm).1.1.1.1.2) (fun hn_ => (Kd.freshB (g := gb153) (o := .cells #[.bool a0_0, .slice (some ad165) l0_1.length c0_1] 59 (0, 0)) (by (with_reducible repeat (first | refine blk_drewN ?_ _ | refine blk_drew ?_ | refine blk_alloc ?_ _)); exact BK153.out) k_ hn_)), Or.elim hk_ (fun hs_ => ((Kd.R_types (Kd.R_types (Kd.R_types (Kd.R_types (Kd.R_types (HO171.out) BK153.out (by decide)) BK154.out (by decide)) BK155.out (by decide)) BK156.out (by decide)) BK160.out (by decide)).1 k_ hs_.symm).1.1.1.2) (fun hn_ => (Kd.freshB (g := gb154) (o := .cells #[.bool a1_0, .slice A1_1 l1_1.length c1_1] 59 (0, 0)) (by (with_reducible repeat (first | refine blk_drewN ?_ _ | refine blk_drew ?_ | refine blk_alloc ?_ _)); exact BK154.out) k_ hn_)), Or.elim hk_ (fun hs_ => ((Kd.R_types (Kd.R_types (Kd.R_types (Kd.R_types (Kd.R_types (HO171.out) BK153.out (by decide)) BK154.out (by decide)) BK155.out (by decide)) BK156.out (by decide)) BK160.out (by decide)).1 k_ hs_.symm).1.1.2) (fun hn_ => (Kd.freshB (g := gb155) (o := .cells #[.bool false, .slice none 0 0] 59 (0, 0)) (by (with_reducible repeat (first | refine blk_drewN ?_ _ | refine blk_drew ?_ | refine blk_alloc ?_ _)); exact BK155.out) k_ hn_)), Or.elim hk_ (fun hs_ => ((Kd.R_types (Kd.R_types (Kd.R_types (Kd.R_types (Kd.R_types (HO171.out) BK153.out (by decide)) BK154.out (by decide)) BK155.out (by decide)) BK156.out (by decide)) BK160.out (by decide)).1 k_ hs_.symm).1.2) (fun hn_ => (Kd.freshB (g := gb156) (o := .cells #[.bool false, .slice none 0 0] 59 (0, 0)) (by (with_reducible repeat (first | refine blk_drewN ?_ _ | refine blk_drew ?_ | refine blk_alloc ?_ _)); exact BK156.out) k_ hn_)), Or.elim hk_ (fun hs_ => ((Kd.R_types (Kd.R_types (Kd.R_types (Kd.R_types (Kd.R_types (HO171.out) BK153.out (by decide)) BK154.out (by decide)) BK155.out (by decide)) BK156.out (by decide)) BK160.out (by decide)).1 k_ hs_.symm).2) (fun hn_ => (Kd.freshB (g := gb160) (o := .cells #[.bool x161000_1, .slice Ao31 x161001_1.length co31] 59 (0, 0)) (by (with_reducible repeat (first | refine blk_drewN ?_ _ | refine blk_drew ?_ | refine blk_alloc ?_ _)); exact BK160.out) k_ hn_))⟩)) (below_size (by repeat (first | (with_reducible first | exact HB.out | apply below_alloc | apply pw_below_drewN | apply below_drew1 | refine below_set ?_ GE153.out | refine below_set ?_ GE154.out | refine below_set ?_ GE155.out | refine below_set ?_ GE156.out | refine below_set ?_ GE160.out) | exact HB.out))))
                  have n4_ := Aside0.mk (blk_below (g := gb153) (o := .cells #[.bool a0_0, .slice (some ad165) l0_1.length c0_1] 59 (0, 0)) (by (with_reducible repeat (first | refine blk_drewN ?_ _ | refine blk_drew ?_ | refine blk_alloc ?_ _)); exact BK153.out) hb)
                  have n5_ := Aside0.mk (blk_below (g := gb154) (o := .cells #[.bool a1_0, .slice A1_1 l1_1.length c1_1] 59 (0, 0)) (by (with_reducible repeat (first | refine blk_drewN ?_ _ | refine blk_drew ?_ | refine blk_alloc ?_ _)); exact BK154.out) hb)
                  have n6_ := Aside0.mk (blk_below (g := gb155) (o := .cells #[.bool false, .slice none 0 0] 59 (0, 0)) (by (with_reducible repeat (first | refine blk_drewN ?_ _ | refine blk_drew ?_ | refine blk_alloc ?_ _)); exact BK155.out) hb)
                  have n7_ := Aside0.mk (blk_below (g := gb156) (o := .cells #[.bool false, .slice none 0 0] 59 (0, 0)) (by (with_reducible repeat (first | refine blk_drewN ?_ _ | refine blk_drew ?_ | refine blk_alloc ?_ _)); exact BK156.out) hb)
                  have n8_ := Aside0.mk (blk_below (g := gb160) (o := .cells #[.bool x161000_1, .slice Ao31 x161001_1.length co31] 59 (0, 0)) (by (with_reducible repeat (first | refine blk_drewN ?_ _ | refine blk_drew ?_ | refine blk_alloc ?_ _)); exact BK160.out) hb)
                  have n9_ := Aside0.mk (below_step (by repeat (first | (with_reducible first | exact HB.out | apply below_alloc | apply pw_below_drewN | apply below_drew1 | refine below_set ?_ GE153.out | refine below_set ?_ GE154.out | refine below_set ?_ GE155.out | refine below_set ?_ GE156.out | refine below_set ?_ GE160.out) | exact HB.out)) hb)
                  clear HO_6
                  clear HO_161001
                  clear HO171
                  clear BK153
                  clear BK154
                  clear BK155
                  clear BK156
                  clear BK160
                  clear HB
                  have HO_6 := n0_
                  have HO_161001 := n1_
                  have HO171 := n2_
                  have HO175 := n3_
                  have BK153 := n4_
                  have BK154 := n5_
                  have BK155 := n6_
                  have BK156 := n7_
                  have BK160 := n8_
                  have HB := n9_
                  clear n0_ n1_ n2_ n3_ n4_ n5_ n6_ n7_ n8_ n9_
                  (try clear hb)
                  (try clear hb2)
                  (try clear hk)
                  (try clear hi)
                  (try clear ho0)
                  obtain ⟨Ao35, co35, eo35⟩ := Kd.V_slice HO175.out
                  (first | subst eo35 | (injection eo35 with f1_ f2_ f3_; have f4_ := f1_.symm; have f5_ := f3_.symm; clear f1_ f2_ f3_; subst f4_; subst f5_))
                  refine hK.out _ _ ⟨(blk_cell BK153.out 0).trans rfl, (blk_cell BK153.out 1).trans rfl, (blk_cell BK160.out 0).trans rfl, (blk_cell BK160.out 1).trans rfl, ((HB.out.cell (World.block_lt_of_cell? w _ hw165_0)).trans hw165_0)⟩ (fun hHeld => ?_)
                  clear hK K
                  refine norm_ (a' := ?_) ?_ ?_
                  rotate_left
                  · show Act.put _ (some 32) _ = _
                    simp only [Act.put, List.setIfInBounds_toArray, List.set_cons_zero, List.set_cons_succ, i64_w, i32_w]
                    rfl
                  refine last_ (i := 11) (N := none) #[true, true, true, true, true, true, true, true, true, true, true, true] rfl rfl (one_of HT_.out (by kernel_rfl)) (by decide) (fun K hK => ?_)
                  have hs34 : w33.cell? ⟨gb160, 0, none⟩ = some (.bool x161000_1) := (blk_cell BK160.out 0).trans rfl
                  have hfs34 := blk_frozen BK160.out 0
                  have hns34_0 := NB153_160.out
                  have hns34_1 := NB154_160.out
                  have hns34_2 := NB155_160.out
                  have hns34_3 := NB156_160.out
                  have hms34_0 := NB160_153.out
                  have hms34_1 := NB160_154.out
                  have hms34_2 := NB160_155.out
                  have hms34_3 := NB160_156.out
                  have hs36 : w33.cell? ⟨gb160, 1, none⟩ = some (.slice Ao31 x161001_1.length co31) := (blk_cell BK160.out 1).trans rfl
                  have hfs36 := blk_frozen BK160.out 1
                  have hns36_0 := NB153_160.out
                  have hns36_1 := NB154_160.out
                  have hns36_2 := NB155_160.out
                  have hns36_3 := NB156_160.out
                  have hms36_0 := NB160_153.out
                  have hms36_1 := NB160_154.out
                  have hms36_2 := NB160_155.out
                  have hms36_3 := NB160_156.out
                  refine skip_ (w1 := ?_) (by rfl) rfl ?_ ?_
                  rotate_left
                  · go_simp
                    rfl
                  refine hK.out _ _ ?_
                  clear hK K
                  refine done_ (done_of HT_.out (by kernel_rfl)) ?_
                  try go_wp2
                  go_loopg [] k1 (fun kq w' => ∃ (x6_2 : List Int) (x161000_2 : Bool) (x161001_2 : List Int) (u161001 : Value), Aside0 (ashlarref01_Over.l1 kq x6_2 x8_1 a0_0 l0_1 a1_0 l1_1 x161000_2 x161001_2 = some (r1, r2, r3, r4)) ∧ Aside0 (kq ≤ k1) ∧ Aside0 (Kd.R (Kd.int .i64) 3 w' w.heap.size (fun k_ => (w.heap.size ≤ k_)) v158 x6_2) ∧ Aside0 (Kd.V (Kd.int .i64) 3 w' w.heap.size (fun k_ => (w.heap.size ≤ k_) ∧ some k_ ≠ (v158 : Value).ownBlock ∧ k_ ≠ gb153 ∧ k_ ≠ gb154 ∧ k_ ≠ gb155 ∧ k_ ≠ gb156 ∧ k_ ≠ gb160) u161001 x161001_2) ∧ Aside0 (w'.heap[gb153]? = some (.cells #[.bool a0_0, (.slice (some ad165) l0_1.length c0_1)] 59 (0, 0))) ∧ Aside0 (w'.heap[gb154]? = some (.cells #[.bool a1_0, (.slice A1_1 l1_1.length c1_1)] 59 (0, 0))) ∧ Aside0 (w'.heap[gb155]? = some (.cells #[.bool false, (.slice none 0 0)] 59 (0, 0))) ∧ Aside0 (w'.heap[gb156]? = some (.cells #[.bool false, (.slice none 0 0)] 59 (0, 0))) ∧ Aside0 (w'.heap[gb160]? = some (.cells #[.bool x161000_2, u161001] 59 (0, 0))) ∧ Aside0 (Below w.heap.size w w'))
                  case atStart => exact ⟨(x6_1), (t172), (t173), (.slice Ao35 t173.length co35), H', ⟨Nat.le_refl _⟩, ⟨by (with_reducible repeat (first | apply Kd.R_alloc | apply Kd.R_drewN | apply Kd.R_drew)); exact Kd.R_mono (Kd.R_far (p := ⟨gb160, 1, none⟩) (Kd.R_far (p := ⟨gb160, 0, none⟩) (Kd.R_types HO_6.out BK160.out (by decide)) (fun _ hk => hk.2) (.bool t172)) (fun _ hk => hk.2) (.slice Ao35 t173.length co35)) (fun _ hk => hk.1.1)⟩, ⟨by (with_reducible repeat (first | apply Kd.V_alloc | apply Kd.V_drewN | apply Kd.V_drew)); exact Kd.V_mono (Kd.V_far (p := ⟨gb160, 1, none⟩) (Kd.V_far (p := ⟨gb160, 0, none⟩) (Kd.V_mono HO175.out (fun k_ hk => (⟨hk, hk.2.2.2.2.2.2⟩ : _ ∧ k_ ≠ gb160))) (fun _ hk => hk.2) (.bool t172)) (fun _ hk => hk.2) (.slice Ao35 t173.length co35)) (fun _ hk => ⟨hk.1.1, ⟨hk.1.2.1, ⟨hk.1.2.2.1, ⟨hk.1.2.2.2.1, ⟨hk.1.2.2.2.2.1, ⟨hk.1.2.2.2.2.2.1, hk.1.2.2.2.2.2.2⟩⟩⟩⟩⟩⟩)⟩, ⟨by (with_reducible repeat (first | refine blk_drewN ?_ _ | refine blk_drew ?_ | refine blk_alloc ?_ _)); refine blk_far ?_ NB153_160.out _; (with_reducible repeat (first | refine blk_drewN ?_ _ | refine blk_drew ?_ | refine blk_alloc ?_ _)); refine blk_far ?_ NB153_160.out _; (with_reducible repeat (first | refine blk_drewN ?_ _ | refine blk_drew ?_ | refine blk_alloc ?_ _)); exact BK153.out⟩, ⟨by (with_reducible repeat (first | refine blk_drewN ?_ _ | refine blk_drew ?_ | refine blk_alloc ?_ _)); refine blk_far ?_ NB154_160.out _; (with_reducible repeat (first | refine blk_drewN ?_ _ | refine blk_drew ?_ | refine blk_alloc ?_ _)); refine blk_far ?_ NB154_160.out _; (with_reducible repeat (first | refine blk_drewN ?_ _ | refine blk_drew ?_ | refine blk_alloc ?_ _)); exact BK154.out⟩, ⟨by (with_reducible repeat (first | refine blk_drewN ?_ _ | refine blk_drew ?_ | refine blk_alloc ?_ _)); refine blk_far ?_ NB155_160.out _; (with_reducible repeat (first | refine blk_drewN ?_ _ | refine blk_drew ?_ | refine blk_alloc ?_ _)); refine blk_far ?_ NB155_160.out _; (with_reducible repeat (first | refine blk_drewN ?_ _ | refine blk_drew ?_ | refine blk_alloc ?_ _)); exact BK155.out⟩, ⟨by (with_reducible repeat (first | refine blk_drewN ?_ _ | refine blk_drew ?_ | refine blk_alloc ?_ _)); refine blk_far ?_ NB156_160.out _; (with_reducible repeat (first | refine blk_drewN ?_ _ | refine blk_drew ?_ | refine blk_alloc ?_ _)); refine blk_far ?_ NB156_160.out _; (with_reducible repeat (first | refine blk_drewN ?_ _ | refine blk_drew ?_ | refine blk_alloc ?_ _)); exact BK156.out⟩, ⟨by (with_reducible repeat (first | refine blk_drewN ?_ _ | refine blk_drew ?_ | refine blk_alloc ?_ _)); refine blk_put (cs := #[.bool t172, .slice Ao31 x161001_1.length co31]) ?_ 1 _ rfl; (with_reducible repeat (first | refine blk_drewN ?_ _ | refine blk_drew ?_ | refine blk_alloc ?_ _)); refine blk_put (cs := #[.bool x161000_1, .slice Ao31 x161001_1.length co31]) ?_ 0 _ rfl; (with_reducible repeat (first | refine blk_drewN ?_ _ | refine blk_drew ?_ | refine blk_alloc ?_ _)); exact BK160.out⟩, ⟨by repeat (first | (with_reducible first | exact HB.out | apply below_alloc | apply pw_below_drewN | apply below_drew1 | refine below_set ?_ GE153.out | refine below_set ?_ GE154.out | refine below_set ?_ GE155.out | refine below_set ?_ GE156.out | refine below_set ?_ GE160.out) | exact HB.out)⟩⟩
                  case round =>
                    clear H'
                    try clear c1
                    try clear p1
                    try clear q1
                    try clear hx1
                    try clear c2
                    try clear p2
                    try clear c3
                    try clear c3b0
                    try clear c3b1
                    try clear c4
                    try clear c4b0
                    try clear c4b1
                    try clear c5
                    try clear p6
                    try clear c9
                    try clear c10
                    try clear c11
                    try clear c16
                    try clear p16
                    try clear q16
                    try clear hx16
                    try clear c17
                    try clear c18
                    try clear c19
                    try clear c22
                    try clear c22b0
                    try clear c23
                    try clear c23b0
                    try clear c24
                    try clear c24b0
                    try clear c25
                    try clear hcz12_0
                    try clear hcz12_1
                    try clear hcz20_0
                    try clear hcz20_1
                    try clear hcz21_0
                    try clear hcz21_1
                    try clear hfz12_0
                    try clear hfz12_1
                    try clear hfz20_0
                    try clear hfz20_1
                    try clear hfz21_0
                    try clear hfz21_1
                    try clear hx165_0
                    try clear p165
                    try clear p2
                    try clear p6
                    try clear q165
                    obtain ⟨x6_2, x161000_2, x161001_2, u161001, HA, HK2, HO_6, HO_161001, BK153, BK154, BK155, BK156, BK160, HB⟩ := hrel
                    cases gk with
                    | zero => exact absurd HA.out (by simp [ashlarref01_Over.l1])
                    | succ k2 =>
                      have H := HA.out
                      clear HA
                      simp only [ashlarref01_Over.l1] at H
                      replace H := Option.bind_eq_some_iff.mp H
                      obtain ⟨t176, A370, H⟩ := H
                      replace H : (if t176 ≥ 0 then ((ashlarref01_apart.f k2 x161001_2 l1_1).bind fun t177 => ((ashlarref01_cut.f false t177).bind fun bt180 => (if 0 ≤ x8_1 then (if x8_1 < (x6_2.length : Int) then (ashlarref01_Over.l1 k2 (x6_2.set (x8_1 : Int).toNat (wrap64 ((rd x6_2 x8_1) + 1))) x8_1 a0_0 l0_1 a1_0 l1_1 bt180.1 bt180.2) else (none)) else (none)))) else (ashlarref01_Over.l0 k2 x6_2 (wrap64 (x8_1 - 1)) a0_0 l0_1 a1_0 l1_1 x161000_2 x161001_2)) = some (r1, r2, r3, r4) := H
                      have A37 := Aside0.mk A370
                      clear A370
                      by_cases c38 : t176 ≥ 0
                      · rw [if_pos c38] at H
                        have c38b0 : decide (0 ≤ t176) = true := decide_eq_true c38
                        clear c38
                        replace H := Option.bind_eq_some_iff.mp H
                        obtain ⟨t177, A390, H⟩ := H
                        replace H : ((ashlarref01_cut.f false t177).bind fun bt180 => (if 0 ≤ x8_1 then (if x8_1 < (x6_2.length : Int) then (ashlarref01_Over.l1 k2 (x6_2.set (x8_1 : Int).toNat (wrap64 ((rd x6_2 x8_1) + 1))) x8_1 a0_0 l0_1 a1_0 l1_1 bt180.1 bt180.2) else (none)) else (none))) = some (r1, r2, r3, r4) := H
                        have A39 := Aside0.mk A390
                        clear A390
                        replace H := Option.bind_eq_some_iff.mp H
                        obtain ⟨⟨t180, t181⟩, A400, H⟩ := H
                        replace H : (if 0 ≤ x8_1 then (if x8_1 < (x6_2.length : Int) then (ashlarref01_Over.l1 k2 (x6_2.set (x8_1 : Int).toNat (wrap64 ((rd x6_2 x8_1) + 1))) x8_1 a0_0 l0_1 a1_0 l1_1 t180 t181) else (none)) else (none)) = some (r1, r2, r3, r4) := H
                        have A40 := Aside0.mk A400
                        clear A400
                        by_cases c41 : 0 ≤ x8_1
                        · rw [if_pos c41] at H
                          have c41b0 : decide (0 ≤ x8_1) = true := decide_eq_true c41
                          clear c41
                          by_cases c42 : x8_1 < (x6_2.length : Int)
                          · rw [if_pos c42] at H
                            have c42b0 : decide (x8_1 < (x6_2.length : Int)) = true := decide_eq_true c42
                            clear c42
                            obtain ⟨y185, hy185⟩ : ∃ y_ : List Int, y_ = (x6_2.set (x8_1 : Int).toNat (wrap64 ((rd x6_2 x8_1) + 1))) := ⟨_, rfl⟩
                            replace H : (ashlarref01_Over.l1 k2 y185 x8_1 a0_0 l0_1 a1_0 l1_1 t180 t181) = some (r1, r2, r3, r4) := by first | (rw [hy185]; with_reducible exact H) | (have H2_ := (Option.bind_some _ _).symm.trans H; rw [hy185]; with_reducible exact H2_) | (have H2_ := (Option.bind_some _ _).symm.trans H; with_reducible exact H2_) | with_reducible exact H | (rw [hy185]; exact H) | exact H
                            have Ny185 := Aside0.mk hy185
                            clear hy185
                            have H' := Aside0.mk H
                            clear H
                            have hnb44 := NB160_153.out
                            have hnc44 := NB153_160.out
                            have hnb45 := NB160_154.out
                            have hnc45 := NB154_160.out
                            have hnb46 := NB160_155.out
                            have hnc46 := NB155_160.out
                            have hnb47 := NB160_156.out
                            have hnc47 := NB156_160.out
                            have hcz48_0 : wr.cell? ⟨gb160, 0, none⟩ = some (.bool x161000_2) := (blk_cell BK160.out 0).trans rfl
                            have hcz48_1 : wr.cell? ⟨gb160, 1, none⟩ = some (u161001) := (blk_cell BK160.out 1).trans rfl
                            have hfz48_0 := blk_frozen BK160.out 0
                            have hfz48_1 := blk_frozen BK160.out 1
                            have hnb49 := NB154_153.out
                            have hnc49 := NB153_154.out
                            have hnb50 := NB154_155.out
                            have hnc50 := NB155_154.out
                            have hnb51 := NB154_156.out
                            have hnc51 := NB156_154.out
                            have hcz52_0 : wr.cell? ⟨gb154, 0, none⟩ = some (.bool a1_0) := (blk_cell BK154.out 0).trans rfl
                            have hcz52_1 : wr.cell? ⟨gb154, 1, none⟩ = some (.slice A1_1 l1_1.length c1_1) := (blk_cell BK154.out 1).trans rfl
                            have hfz52_0 := blk_frozen BK154.out 0
                            have hfz52_1 := blk_frozen BK154.out 1
                            obtain ⟨Ao53, co53, eo53⟩ := Kd.V_slice HO_161001.out
                            subst eo53
                            go_wp2_with (first | ((with_reducible refine gate_callee (f := 55) rfl ?_); refine goesL_ (some 37) rfl rfl Try.func55 (by kernel_rfl) rfl #[.slice Ao53 x161001_2.length co53, .slice A1_1 l1_1.length c1_1] rfl (by (try simp only [List.map_toArray, List.map_cons, List.map_nil]); first | done | rfl | (simp only [List.length_drop, List.length_take]; rfl)) ?_; (with_reducible refine (ashlarref01_size.calls k2 _ _ x161001_2 _ _ l1_1 t176 _ ?side1 ?side2 ?side3 ?side4 A37.out).mono ?_); (case side1 => repeat (first | exact (Kd.V_reads' HO_161001.out).2.2 | (with_reducible refine Kd.C_alloc ?_ _) | (with_reducible refine Kd.C_drewN ?_ _) | (with_reducible refine Kd.C_drew ?_))); (case side2 => exact (Kd.V_reads' HO_161001.out).2.1); (case side3 => repeat (first | exact (Kd.C_below HR1_1.out HB.out) | (with_reducible refine Kd.C_alloc ?_ _) | (with_reducible refine Kd.C_drewN ?_ _) | (with_reducible refine Kd.C_drew ?_))); (case side4 => exact HC1_1.out); rintro e w54 ⟨rfl, hb⟩; refine ⟨_, rfl, ?_⟩; have n0_ := Aside0.mk (Kd.R_below (by (with_reducible repeat (first | apply Kd.R_alloc | apply Kd.R_drewN | apply Kd.R_drew)); exact HO_6.out) hb); have n1_ := Aside0.mk (Kd.V_below (by (with_reducible repeat (first | apply Kd.V_alloc | apply Kd.V_drewN | apply Kd.V_drew)); exact HO_161001.out) hb); have n2_ := Aside0.mk (blk_below (g := gb153) (o := .cells #[.bool a0_0, .slice (some ad165) l0_1.length c0_1] 59 (0, 0)) (by (with_reducible repeat (first | refine blk_drewN ?_ _ | refine blk_drew ?_ | refine blk_alloc ?_ _)); exact BK153.out) hb); have n3_ := Aside0.mk (blk_below (g := gb154) (o := .cells #[.bool a1_0, .slice A1_1 l1_1.length c1_1] 59 (0, 0)) (by (with_reducible repeat (first | refine blk_drewN ?_ _ | refine blk_drew ?_ | refine blk_alloc ?_ _)); exact BK154.out) hb); have n4_ := Aside0.mk (blk_below (g := gb155) (o := .cells #[.bool false, .slice none 0 0] 59 (0, 0)) (by (with_reducible repeat (first | refine blk_drewN ?_ _ | refine blk_drew ?_ | refine blk_alloc ?_ _)); exact BK155.out) hb); have n5_ := Aside0.mk (blk_below (g := gb156) (o := .cells #[.bool false, .slice none 0 0] 59 (0, 0)) (by (with_reducible repeat (first | refine blk_drewN ?_ _ | refine blk_drew ?_ | refine blk_alloc ?_ _)); exact BK156.out) hb); have n6_ := Aside0.mk (blk_below (g := gb160) (o := .cells #[.bool x161000_2, .slice Ao53 x161001_2.length co53] 59 (0, 0)) (by (with_reducible repeat (first | refine blk_drewN ?_ _ | refine blk_drew ?_ | refine blk_alloc ?_ _)); exact BK160.out) hb); have n7_ := Aside0.mk (below_step (by repeat (first | (with_reducible first | exact HB.out | apply below_alloc | apply pw_below_drewN | apply below_drew1 | refine below_set ?_ GE153.out | refine below_set ?_ GE154.out | refine below_set ?_ GE155.out | refine below_set ?_ GE156.out | refine below_set ?_ GE160.out) | exact HB.out)) hb); clear HO_6; clear HO_161001; clear BK153; clear BK154; clear BK155; clear BK156; clear BK160; clear HB; have HO_6 := n0_; have HO_161001 := n1_; have BK153 := n2_; have BK154 := n3_; have BK155 := n4_; have BK156 := n5_; have BK160 := n6_; have HB := n7_; clear n0_ n1_ n2_ n3_ n4_ n5_ n6_ n7_; (try clear hb); (try clear hb2); (try clear hk); (try clear hi); have hcz55_0 : w54.cell? ⟨gb160, 0, none⟩ = some (.bool x161000_2) := (blk_cell BK160.out 0).trans rfl; have hcz55_1 : w54.cell? ⟨gb160, 1, none⟩ = some (.slice Ao53 x161001_2.length co53) := (blk_cell BK160.out 1).trans rfl; have hfz55_0 := blk_frozen BK160.out 0; have hfz55_1 := blk_frozen BK160.out 1; have hcz56_0 : w54.cell? ⟨gb154, 0, none⟩ = some (.bool a1_0) := (blk_cell BK154.out 0).trans rfl; have hcz56_1 : w54.cell? ⟨gb154, 1, none⟩ = some (.slice A1_1 l1_1.length c1_1) := (blk_cell BK154.out 1).trans rfl; have hfz56_0 := blk_frozen BK154.out 0; have hfz56_1 := blk_frozen BK154.out 1) | ((with_reducible refine gate_callee (f := 56) rfl ?_); refine goesL_ (some 43) rfl rfl Try.func56 (by kernel_rfl) rfl #[.slice Ao53 x161001_2.length co53, .slice A1_1 l1_1.length c1_1] rfl (by (try simp only [List.map_toArray, List.map_cons, List.map_nil]); first | done | rfl | (simp only [List.length_drop, List.length_take]; rfl)) ?_; (with_reducible refine (ashlarref01_apart.calls k2 _ _ x161001_2 _ _ l1_1 t177 _ ?side1 ?side2 ?side3 ?side4 A39.out).mono ?_); (case side1 => repeat (first | exact (Kd.V_reads' HO_161001.out).2.2 | (with_reducible refine Kd.C_alloc ?_ _) | (with_reducible refine Kd.C_drewN ?_ _) | (with_reducible refine Kd.C_drew ?_))); (case side2 => exact (Kd.V_reads' HO_161001.out).2.1); (case side3 => repeat (first | exact (Kd.C_below HR1_1.out HB.out) | (with_reducible refine Kd.C_alloc ?_ _) | (with_reducible refine Kd.C_drewN ?_ _) | (with_reducible refine Kd.C_drew ?_))); (case side4 => exact HC1_1.out); rintro e w57 ⟨v178, rfl, ho0, hb⟩; refine ⟨_, rfl, ?_⟩; have n0_ := Aside0.mk (Kd.R_elder' (by (with_reducible repeat (first | apply Kd.R_alloc | apply Kd.R_drewN | apply Kd.R_drew)); exact HO_6.out) (Kd.R_base ho0) hb); have n1_ := Aside0.mk (Kd.V_elder' (by (with_reducible repeat (first | apply Kd.V_alloc | apply Kd.V_drewN | apply Kd.V_drew)); exact HO_161001.out) (Kd.R_base ho0) hb); have n2_ := Aside0.mk (Kd.R_lower (Kd.R_new' (Kd.R_newM (M := fun k_ => (w.heap.size ≤ k_)) ho0 (below_size (by repeat (first | (with_reducible first | exact HB.out | apply below_alloc | apply pw_below_drewN | apply below_drew1 | refine below_set ?_ GE153.out | refine below_set ?_ GE154.out | refine below_set ?_ GE155.out | refine below_set ?_ GE156.out | refine below_set ?_ GE160.out) | exact HB.out))) (fun k_ h_ => h_)) (Kd.R_lt (by (with_reducible repeat (first | apply Kd.R_alloc | apply Kd.R_drewN | apply Kd.R_drew)); exact HO_6.out))) (below_size (by repeat (first | (with_reducible first | exact HB.out | apply below_alloc | apply pw_below_drewN | apply below_drew1 | refine below_set ?_ GE153.out | refine below_set ?_ GE154.out | refine below_set ?_ GE155.out | refine below_set ?_ GE156.out | refine below_set ?_ GE160.out) | exact HB.out)))); have n3_ := Aside0.mk (blk_below (g := gb153) (o := .cells #[.bool a0_0, .slice (some ad165) l0_1.length c0_1] 59 (0, 0)) (by (with_reducible repeat (first | refine blk_drewN ?_ _ | refine blk_drew ?_ | refine blk_alloc ?_ _)); exact BK153.out) hb); have n4_ := Aside0.mk (blk_below (g := gb154) (o := .cells #[.bool a1_0, .slice A1_1 l1_1.length c1_1] 59 (0, 0)) (by (with_reducible repeat (first | refine blk_drewN ?_ _ | refine blk_drew ?_ | refine blk_alloc ?_ _)); exact BK154.out) hb); have n5_ := Aside0.mk (blk_below (g := gb155) (o := .cells #[.bool false, .slice none 0 0] 59 (0, 0)) (by (with_reducible repeat (first | refine blk_drewN ?_ _ | refine blk_drew ?_ | refine blk_alloc ?_ _)); exact BK155.out) hb); have n6_ := Aside0.mk (blk_below (g := gb156) (o := .cells #[.bool false, .slice none 0 0] 59 (0, 0)) (by (with_reducible repeat (first | refine blk_drewN ?_ _ | refine blk_drew ?_ | refine blk_alloc ?_ _)); exact BK156.out) hb); have n7_ := Aside0.mk (blk_below (g := gb160) (o := .cells #[.bool x161000_2, .slice Ao53 x161001_2.length co53] 59 (0, 0)) (by (with_reducible repeat (first | refine blk_drewN ?_ _ | refine blk_drew ?_ | refine blk_alloc ?_ _)); exact BK160.out) hb); have n8_ := Aside0.mk (below_step (by repeat (first | (with_reducible first | exact HB.out | apply below_alloc | apply pw_below_drewN | apply below_drew1 | refine below_set ?_ GE153.out | refine below_set ?_ GE154.out | refine below_set ?_ GE155.out | refine below_set ?_ GE156.out | refine below_set ?_ GE160.out) | exact HB.out)) hb); clear HO_6; clear HO_161001; clear BK153; clear BK154; clear BK155; clear BK156; clear BK160; clear HB; have HO_6 := n0_; have HO_161001 := n1_; have HO179 := n2_; have BK153 := n3_; have BK154 := n4_; have BK155 := n5_; have BK156 := n6_; have BK160 := n7_; have HB := n8_; clear n0_ n1_ n2_ n3_ n4_ n5_ n6_ n7_ n8_; (try clear hb); (try clear hb2); (try clear hk); (try clear hi); (try clear ho0); obtain ⟨Ao58, co58, eo58⟩ := Kd.R_slice HO179.out; subst eo58) | ((with_reducible refine gate_callee (f := 51) rfl ?_); refine goesL_ (some 45) rfl rfl Try.func51 (by kernel_rfl) rfl #[.agg #[.bool false, .slice Ao58 t177.length co58]] rfl (by (try simp only [List.map_toArray, List.map_cons, List.map_nil]); first | done | rfl | (simp only [List.length_drop, List.length_take]; rfl)) ?_; (with_reducible refine (ashlarref01_cut.calls false (fun k_ => some k_ = (.slice Ao58 t177.length co58 : Value).ownBlock) _ _ t177 t180 t181 _ ?side1 A40.out).mono ?_); (case side1 => exact Kd.R_V (Kd.R_tight rfl (Kd.R_types (Kd.R_types (Kd.R_types (Kd.R_types (Kd.R_types (HO179.out) BK153.out (by decide)) BK154.out (by decide)) BK155.out (by decide)) BK156.out (by decide)) BK160.out (by decide)))); rintro e w59 ⟨v182, rfl, ho0, hb⟩; refine ⟨_, rfl, ?_⟩; have n0_ := Aside0.mk (Kd.R_below (by (with_reducible repeat (first | apply Kd.R_alloc | apply Kd.R_drewN | apply Kd.R_drew)); exact HO_6.out) hb); have n1_ := Aside0.mk (Kd.V_below (by (with_reducible repeat (first | apply Kd.V_alloc | apply Kd.V_drewN | apply Kd.V_drew)); exact HO_161001.out) hb); have n2_ := Aside0.mk (Kd.R_below (by (with_reducible repeat (first | apply Kd.R_alloc | apply Kd.R_drewN | apply Kd.R_drew)); exact HO179.out) hb); have n3_ := Aside0.mk (Kd.V_lower (Kd.V_mono (ok' := fun k_ => (w.heap.size ≤ k_) ∧ some k_ ≠ (v158 : Value).ownBlock ∧ k_ ≠ gb153 ∧ k_ ≠ gb154 ∧ k_ ≠ gb155 ∧ k_ ≠ gb156 ∧ k_ ≠ gb160) ho0 (fun k_ hk_ => ⟨Or.elim hk_ (fun hs_ => ((Kd.R_types (Kd.R_types (Kd.R_types (Kd.R_types (Kd.R_types (HO179.out) BK153.out (by decide)) BK154.out (by decide)) BK155.out (by decide)) BK156.out (by decide)) BK160.out (by decide)).1 k_ hs_.symm).1.1.1.1.1.1.1) (fun hn_ => (Nat.le_trans (below_size (by repeat (first | (with_reducible first | exact HB.out | apply below_alloc | apply pw_below_drewN | apply below_drew1 | refine below_set ?_ GE153.out | refine below_set ?_ GE154.out | refine below_set ?_ GE155.out | refine below_set ?_ GE156.out | refine below_set ?_ GE160.out) | exact HB.out))) hn_)), Or.elim hk_ (fun hs_ => ((Kd.R_types (Kd.R_types (Kd.R_types (Kd.R_types (Kd.R_types (HO179.out) BK153.out (by decide)) BK154.out (by decide)) BK155.out (by decide)) BK156.out (by decide)) BK160.out (by decide)).1 k_ hs_.symm).1.1.1.1.1.2) (fun hn_ => (Kd.fresh' (Kd.R_lt (by (with_reducible repeat (first | apply Kd.R_alloc | apply Kd.R_drewN | apply Kd.R_drew)); exact HO_6.out)) k_ hn_)), Or.elim hk_ (fun hs_ => ((Kd.R_types (Kd.R_types (Kd.R_types (Kd.R_types (Kd.R_types (HO179.out) BK153.out (by decide)) BK154.out (by decide)) BK155.out (by decide)) BK156.out (by decide)) BK160.out (by decide)).1 k_ hs_.symm).1.1.1.1.2) (fun hn_ => (Kd.freshB (g := gb153) (o := .cells #[.bool a0_0, .slice (some ad165) l0_1.length c0_1] 59 (0, 0)) (by (with_reducible repeat (first | refine blk_drewN ?_ _ | refine blk_drew ?_ | refine blk_alloc ?_ _)); exact BK153.out) k_ hn_)), Or.elim hk_ (fun hs_ => ((Kd.R_types (Kd.R_types (Kd.R_types (Kd.R_types (Kd.R_types (HO179.out) BK153.out (by decide)) BK154.out (by decide)) BK155.out (by decide)) BK156.out (by decide)) BK160.out (by decide)).1 k_ hs_.symm).1.1.1.2) (fun hn_ => (Kd.freshB (g := gb154) (o := .cells #[.bool a1_0, .slice A1_1 l1_1.length c1_1] 59 (0, 0)) (by (with_reducible repeat (first | refine blk_drewN ?_ _ | refine blk_drew ?_ | refine blk_alloc ?_ _)); exact BK154.out) k_ hn_)), Or.elim hk_ (fun hs_ => ((Kd.R_types (Kd.R_types (Kd.R_types (Kd.R_types (Kd.R_types (HO179.out) BK153.out (by decide)) BK154.out (by decide)) BK155.out (by decide)) BK156.out (by decide)) BK160.out (by decide)).1 k_ hs_.symm).1.1.2) (fun hn_ => (Kd.freshB (g := gb155) (o := .cells #[.bool false, .slice none 0 0] 59 (0, 0)) (by (with_reducible repeat (first | refine blk_drewN ?_ _ | refine blk_drew ?_ | refine blk_alloc ?_ _)); exact BK155.out) k_ hn_)), Or.elim hk_ (fun hs_ => ((Kd.R_types (Kd.R_types (Kd.R_types (Kd.R_types (Kd.R_types (HO179.out) BK153.out (by decide)) BK154.out (by decide)) BK155.out (by decide)) BK156.out (by decide)) BK160.out (by decide)).1 k_ hs_.symm).1.2) (fun hn_ => (Kd.freshB (g := gb156) (o := .cells #[.bool false, .slice none 0 0] 59 (0, 0)) (by (with_reducible repeat (first | refine blk_drewN ?_ _ | refine blk_drew ?_ | refine blk_alloc ?_ _)); exact BK156.out) k_ hn_)), Or.elim hk_ (fun hs_ => ((Kd.R_types (Kd.R_types (Kd.R_types (Kd.R_types (Kd.R_types (HO179.out) BK153.out (by decide)) BK154.out (by decide)) BK155.out (by decide)) BK156.out (by decide)) BK160.out (by decide)).1 k_ hs_.symm).2) (fun hn_ => (Kd.freshB (g := gb160) (o := .cells #[.bool x161000_2, .slice Ao53 x161001_2.length co53] 59 (0, 0)) (by (with_reducible repeat (first | refine blk_drewN ?_ _ | refine blk_drew ?_ | refine blk_alloc ?_ _)); exact BK160.out) k_ hn_))⟩)) (below_size (by repeat (first | (with_reducible first | exact HB.out | apply below_alloc | apply pw_below_drewN | apply below_drew1 | refine below_set ?_ GE153.out | refine below_set ?_ GE154.out | refine below_set ?_ GE155.out | refine below_set ?_ GE156.out | refine below_set ?_ GE160.out) | exact HB.out)))); have n4_ := Aside0.mk (blk_below (g := gb153) (o := .cells #[.bool a0_0, .slice (some ad165) l0_1.length c0_1] 59 (0, 0)) (by (with_reducible repeat (first | refine blk_drewN ?_ _ | refine blk_drew ?_ | refine blk_alloc ?_ _)); exact BK153.out) hb); have n5_ := Aside0.mk (blk_below (g := gb154) (o := .cells #[.bool a1_0, .slice A1_1 l1_1.length c1_1] 59 (0, 0)) (by (with_reducible repeat (first | refine blk_drewN ?_ _ | refine blk_drew ?_ | refine blk_alloc ?_ _)); exact BK154.out) hb); have n6_ := Aside0.mk (blk_below (g := gb155) (o := .cells #[.bool false, .slice none 0 0] 59 (0, 0)) (by (with_reducible repeat (first | refine blk_drewN ?_ _ | refine blk_drew ?_ | refine blk_alloc ?_ _)); exact BK155.out) hb); have n7_ := Aside0.mk (blk_below (g := gb156) (o := .cells #[.bool false, .slice none 0 0] 59 (0, 0)) (by (with_reducible repeat (first | refine blk_drewN ?_ _ | refine blk_drew ?_ | refine blk_alloc ?_ _)); exact BK156.out) hb); have n8_ := Aside0.mk (blk_below (g := gb160) (o := .cells #[.bool x161000_2, .slice Ao53 x161001_2.length co53] 59 (0, 0)) (by (with_reducible repeat (first | refine blk_drewN ?_ _ | refine blk_drew ?_ | refine blk_alloc ?_ _)); exact BK160.out) hb); have n9_ := Aside0.mk (below_step (by repeat (first | (with_reducible first | exact HB.out | apply below_alloc | apply pw_below_drewN | apply below_drew1 | refine below_set ?_ GE153.out | refine below_set ?_ GE154.out | refine below_set ?_ GE155.out | refine below_set ?_ GE156.out | refine below_set ?_ GE160.out) | exact HB.out)) hb); clear HO_6; clear HO_161001; clear HO179; clear BK153; clear BK154; clear BK155; clear BK156; clear BK160; clear HB; have HO_6 := n0_; have HO_161001 := n1_; have HO179 := n2_; have HO183 := n3_; have BK153 := n4_; have BK154 := n5_; have BK155 := n6_; have BK156 := n7_; have BK160 := n8_; have HB := n9_; clear n0_ n1_ n2_ n3_ n4_ n5_ n6_ n7_ n8_ n9_; (try clear hb); (try clear hb2); (try clear hk); (try clear hi); (try clear ho0); have hcz60_0 : w59.cell? ⟨gb160, 0, none⟩ = some (.bool x161000_2) := (blk_cell BK160.out 0).trans rfl; have hcz60_1 : w59.cell? ⟨gb160, 1, none⟩ = some (.slice Ao53 x161001_2.length co53) := (blk_cell BK160.out 1).trans rfl; have hfz60_0 := blk_frozen BK160.out 0; have hfz60_1 := blk_frozen BK160.out 1; obtain ⟨Ao61, co61, eo61⟩ := Kd.V_slice HO183.out; subst eo61) | ((with_reducible refine gate_store (t := 59) (p := 7) rfl ?_); refine store_event (t := 59) (p := 7) (v := ?vo_w62) (w1 := ((w59.setCell ⟨gb160, 0, none⟩ (.bool t180)).setCell ⟨gb160, 1, none⟩ (.slice Ao61 t181.length co61))) ?hg ?ho ?hn ?hr ?_; (case ho => rfl); (case hg => rfl); (case hn => rfl); (case hr => first | (go_simp; done) | (go_simp; rfl)); intro w62 hw; have n0_ : Aside0 (Kd.R (Kd.int .i64) 3 w62 w.heap.size (fun k_ => (w.heap.size ≤ k_) ∧ some k_ ≠ (.slice Ao58 t177.length co58 : Value).ownBlock) v158 x6_2) := ⟨(by rw [hw]; exact (by (with_reducible repeat (first | apply Kd.R_alloc | apply Kd.R_drewN | apply Kd.R_drew)); exact Kd.R_mono (Kd.R_far (p := ⟨gb160, 1, none⟩) (Kd.R_far (p := ⟨gb160, 0, none⟩) (Kd.R_types HO_6.out BK160.out (by decide)) (fun _ hk => hk.2) (.bool t180)) (fun _ hk => hk.2) (.slice Ao61 t181.length co61)) (fun _ hk => ⟨hk.1.1, hk.1.2⟩)))⟩; have n1_ : Aside0 (Kd.V (Kd.int .i64) 3 w62 w.heap.size (fun k_ => (w.heap.size ≤ k_) ∧ some k_ ≠ (v158 : Value).ownBlock ∧ some k_ ≠ (.slice Ao58 t177.length co58 : Value).ownBlock ∧ k_ ≠ gb153 ∧ k_ ≠ gb154 ∧ k_ ≠ gb155 ∧ k_ ≠ gb156 ∧ k_ ≠ gb160) (.slice Ao53 x161001_2.length co53) x161001_2) := ⟨(by rw [hw]; exact (by (with_reducible repeat (first | apply Kd.V_alloc | apply Kd.V_drewN | apply Kd.V_drew)); exact Kd.V_mono (Kd.V_far (p := ⟨gb160, 1, none⟩) (Kd.V_far (p := ⟨gb160, 0, none⟩) (Kd.V_mono HO_161001.out (fun k_ hk => (⟨hk, hk.1.2.2.2.2.2.2⟩ : _ ∧ k_ ≠ gb160))) (fun _ hk => hk.2) (.bool t180)) (fun _ hk => hk.2) (.slice Ao61 t181.length co61)) (fun _ hk => ⟨hk.1.1.1, ⟨hk.1.1.2.1, ⟨hk.1.2, ⟨hk.1.1.2.2.1, ⟨hk.1.1.2.2.2.1, ⟨hk.1.1.2.2.2.2.1, ⟨hk.1.1.2.2.2.2.2.1, hk.1.1.2.2.2.2.2.2⟩⟩⟩⟩⟩⟩⟩)))⟩; have n2_ : Aside0 (Kd.R (Kd.int .i64) 3 w62 w.heap.size (fun k_ => (w.heap.size ≤ k_) ∧ some k_ ≠ (v158 : Value).ownBlock) (.slice Ao58 t177.length co58) t177) := ⟨(by rw [hw]; exact (by (with_reducible repeat (first | apply Kd.R_alloc | apply Kd.R_drewN | apply Kd.R_drew)); exact Kd.R_mono (Kd.R_far (p := ⟨gb160, 1, none⟩) (Kd.R_far (p := ⟨gb160, 0, none⟩) (Kd.R_types HO179.out BK160.out (by decide)) (fun _ hk => hk.2) (.bool t180)) (fun _ hk => hk.2) (.slice Ao61 t181.length co61)) (fun _ hk => ⟨hk.1.1.1, hk.1.2⟩)))⟩; have n3_ : Aside0 (Kd.V (Kd.int .i64) 3 w62 w.heap.size (fun k_ => (w.heap.size ≤ k_) ∧ some k_ ≠ (v158 : Value).ownBlock ∧ k_ ≠ gb153 ∧ k_ ≠ gb154 ∧ k_ ≠ gb155 ∧ k_ ≠ gb156 ∧ k_ ≠ gb160) (.slice Ao61 t181.length co61) t181) := ⟨(by rw [hw]; exact (by (with_reducible repeat (first | apply Kd.V_alloc | apply Kd.V_drewN | apply Kd.V_drew)); exact Kd.V_mono (Kd.V_far (p := ⟨gb160, 1, none⟩) (Kd.V_far (p := ⟨gb160, 0, none⟩) (Kd.V_mono HO183.out (fun k_ hk => (⟨hk, hk.2.2.2.2.2.2⟩ : _ ∧ k_ ≠ gb160))) (fun _ hk => hk.2) (.bool t180)) (fun _ hk => hk.2) (.slice Ao61 t181.length co61)) (fun _ hk => ⟨hk.1.1, ⟨hk.1.2.1, ⟨hk.1.2.2.1, ⟨hk.1.2.2.2.1, ⟨hk.1.2.2.2.2.1, ⟨hk.1.2.2.2.2.2.1, hk.1.2.2.2.2.2.2⟩⟩⟩⟩⟩⟩)))⟩; have n4_ : Aside0 (w62.heap[gb153]? = some (.cells #[.bool a0_0, .slice (some ad165) l0_1.length c0_1] 59 (0, 0))) := ⟨(by rw [hw]; exact (by (with_reducible repeat (first | refine blk_drewN ?_ _ | refine blk_drew ?_ | refine blk_alloc ?_ _)); refine blk_far ?_ NB153_160.out _; (with_reducible repeat (first | refine blk_drewN ?_ _ | refine blk_drew ?_ | refine blk_alloc ?_ _)); refine blk_far ?_ NB153_160.out _; (with_reducible repeat (first | refine blk_drewN ?_ _ | refine blk_drew ?_ | refine blk_alloc ?_ _)); exact BK153.out))⟩; have n5_ : Aside0 (w62.heap[gb154]? = some (.cells #[.bool a1_0, .slice A1_1 l1_1.length c1_1] 59 (0, 0))) := ⟨(by rw [hw]; exact (by (with_reducible repeat (first | refine blk_drewN ?_ _ | refine blk_drew ?_ | refine blk_alloc ?_ _)); refine blk_far ?_ NB154_160.out _; (with_reducible repeat (first | refine blk_drewN ?_ _ | refine blk_drew ?_ | refine blk_alloc ?_ _)); refine blk_far ?_ NB154_160.out _; (with_reducible repeat (first | refine blk_drewN ?_ _ | refine blk_drew ?_ | refine blk_alloc ?_ _)); exact BK154.out))⟩; have n6_ : Aside0 (w62.heap[gb155]? = some (.cells #[.bool false, .slice none 0 0] 59 (0, 0))) := ⟨(by rw [hw]; exact (by (with_reducible repeat (first | refine blk_drewN ?_ _ | refine blk_drew ?_ | refine blk_alloc ?_ _)); refine blk_far ?_ NB155_160.out _; (with_reducible repeat (first | refine blk_drewN ?_ _ | refine blk_drew ?_ | refine blk_alloc ?_ _)); refine blk_far ?_ NB155_160.out _; (with_reducible repeat (first | refine blk_drewN ?_ _ | refine blk_drew ?_ | refine blk_alloc ?_ _)); exact BK155.out))⟩; have n7_ : Aside0 (w62.heap[gb156]? = some (.cells #[.bool false, .slice none 0 0] 59 (0, 0))) := ⟨(by rw [hw]; exact (by (with_reducible repeat (first | refine blk_drewN ?_ _ | refine blk_drew ?_ | refine blk_alloc ?_ _)); refine blk_far ?_ NB156_160.out _; (with_reducible repeat (first | refine blk_drewN ?_ _ | refine blk_drew ?_ | refine blk_alloc ?_ _)); refine blk_far ?_ NB156_160.out _; (with_reducible repeat (first | refine blk_drewN ?_ _ | refine blk_drew ?_ | refine blk_alloc ?_ _)); exact BK156.out))⟩; have n8_ : Aside0 (w62.heap[gb160]? = some (.cells #[.bool t180, .slice Ao61 t181.length co61] 59 (0, 0))) := ⟨(by rw [hw]; exact (by (with_reducible repeat (first | refine blk_drewN ?_ _ | refine blk_drew ?_ | refine blk_alloc ?_ _)); refine blk_put (cs := #[.bool t180, .slice Ao53 x161001_2.length co53]) ?_ 1 _ rfl; (with_reducible repeat (first | refine blk_drewN ?_ _ | refine blk_drew ?_ | refine blk_alloc ?_ _)); refine blk_put (cs := #[.bool x161000_2, .slice Ao53 x161001_2.length co53]) ?_ 0 _ rfl; (with_reducible repeat (first | refine blk_drewN ?_ _ | refine blk_drew ?_ | refine blk_alloc ?_ _)); exact BK160.out))⟩; have n9_ : Aside0 (Below w.heap.size w w62) := ⟨(by rw [hw]; exact (by repeat (first | (with_reducible first | exact HB.out | apply below_alloc | apply pw_below_drewN | apply below_drew1 | refine below_set ?_ GE153.out | refine below_set ?_ GE154.out | refine below_set ?_ GE155.out | refine below_set ?_ GE156.out | refine below_set ?_ GE160.out) | exact HB.out)))⟩; clear hw; clear HO_6; clear HO_161001; clear HO179; clear HO183; clear BK153; clear BK154; clear BK155; clear BK156; clear BK160; clear HB; have HO_6 := n0_; have HO_161001 := n1_; have HO179 := n2_; have HO183 := n3_; have BK153 := n4_; have BK154 := n5_; have BK155 := n6_; have BK156 := n7_; have BK160 := n8_; have HB := n9_; clear n0_ n1_ n2_ n3_ n4_ n5_ n6_ n7_ n8_ n9_; obtain ⟨Ao63, co63, eo63⟩ := Kd.R_slice HO_6.out; subst eo63; have p184 : 0 ≤ (x8_1 : Int) := of_decide_eq_true (by first | (with_reducible assumption) | assumption); have q184 : x8_1 < (x6_2.length : Int) := of_decide_eq_true (by first | (with_reducible assumption) | assumption); obtain ⟨ad184, e184, hx184_0⟩ := Kd.at_int (Kd.R_reads' HO_6.out).2.2 x8_1 p184 q184; cases e184; replace p184 := eq_true p184; replace q184 := eq_true q184; have p43 : 0 ≤ (x8_1 : Int) := of_decide_eq_true (by first | (with_reducible assumption) | assumption); have q43 : (x8_1 : Int) < ((x6_2.length : Int) : Int) := of_decide_eq_true (by first | (with_reducible assumption) | assumption); obtain ⟨go43, co43, eo43, gb43, gl43, cl43, HG43⟩ := Kd.R_form HO_6.out (by omega); (first | cases eo43 | (injection eo43 with ea_ en_ ec_; (first | subst ea_ | (injection ea_ with ea_; subst ea_)); subst ec_; clear en_)); have GB43 := Aside0.mk gb43; have GG43 := Aside0.mk HG43; clear gb43 gl43 HG43; (first | simp only [add_plain] at hx184_0 | skip); obtain ⟨hx43_0, hf43_0⟩ := Kd.R_celln 0 HO_6.out (x8_1 : Int) p43 q43; replace p43 := eq_true p43; replace q43 := eq_true q43; obtain ⟨hy64_, hz64_⟩ := Kd.R_celln 0 HO_6.out (x8_1 : Int) (of_decide_eq_true (by first | (with_reducible assumption) | assumption)) (of_decide_eq_true (by first | (with_reducible assumption) | assumption)); have HP64 := Kd.R_putg HO_6.out (x8_1 : Int) (wrap64 ((rd x6_2 x8_1) + 1))) | ((with_reducible refine gate_store (t := 3) (p := 51) rfl ?_); refine store_event (t := 3) (p := 51) (v := ?vo_w65) (w1 := (w62.setCell ⟨go43, (x8_1 : Int).toNat, none⟩ (.int .i64 (wrap64 ((rd x6_2 x8_1) + 1))))) ?hg ?ho ?hn ?hr ?_; (case ho => rfl); (case hg => rfl); (case hn => rfl); (case hr => first | (go_simp; done) | (go_simp; rfl)); intro w65 hw; have hg : w62.grownBy w65 (some go43) := (by rw [hw]; exact HP64.2); have hp_ : Kd.R (Kd.int .i64) 3 w65 w.heap.size (fun k_ => (w.heap.size ≤ k_) ∧ some k_ ≠ (.slice Ao58 t177.length co58 : Value).ownBlock) (.slice (some ⟨go43, 0, none⟩) x6_2.length co63) y185 := (by rw [hw, Ny185.out]; exact HP64.1); clear HP64; have n0_ := Aside0.mk (hp_); have n1_ := Aside0.mk (Kd.V_afterv (v := (.slice (some ⟨go43, 0, none⟩) x6_2.length co63)) (v1 := (.slice (some ⟨go43, 0, none⟩) x6_2.length co63)) (ok := (fun k_ => (w.heap.size ≤ k_) ∧ some k_ ≠ (.slice Ao58 t177.length co58 : Value).ownBlock ∧ k_ ≠ gb153 ∧ k_ ≠ gb154 ∧ k_ ≠ gb155 ∧ k_ ≠ gb156 ∧ k_ ≠ gb160)) (by (with_reducible repeat (first | apply Kd.V_alloc | apply Kd.V_drewN | apply Kd.V_drew)); exact Kd.V_mono HO_161001.out (fun _ hk => ⟨⟨hk.1, ⟨hk.2.2.1, ⟨hk.2.2.2.1, ⟨hk.2.2.2.2.1, ⟨hk.2.2.2.2.2.1, ⟨hk.2.2.2.2.2.2.1, hk.2.2.2.2.2.2.2⟩⟩⟩⟩⟩⟩, hk.2.1⟩)) hg (.inl rfl)); have n2_ := Aside0.mk (blk_grown (g := gb153) (o := .cells #[.bool a0_0, .slice (some ad165) l0_1.length c0_1] 59 (0, 0)) (by (with_reducible repeat (first | refine blk_drewN ?_ _ | refine blk_drew ?_ | refine blk_alloc ?_ _)); exact BK153.out) hg (Kd.R_ne HO_6.out BK153.out (by decide))); have n3_ := Aside0.mk (blk_grown (g := gb154) (o := .cells #[.bool a1_0, .slice A1_1 l1_1.length c1_1] 59 (0, 0)) (by (with_reducible repeat (first | refine blk_drewN ?_ _ | refine blk_drew ?_ | refine blk_alloc ?_ _)); exact BK154.out) hg (Kd.R_ne HO_6.out BK154.out (by decide))); have n4_ := Aside0.mk (blk_grown (g := gb155) (o := .cells #[.bool false, .slice none 0 0] 59 (0, 0)) (by (with_reducible repeat (first | refine blk_drewN ?_ _ | refine blk_drew ?_ | refine blk_alloc ?_ _)); exact BK155.out) hg (Kd.R_ne HO_6.out BK155.out (by decide))); have n5_ := Aside0.mk (blk_grown (g := gb156) (o := .cells #[.bool false, .slice none 0 0] 59 (0, 0)) (by (with_reducible repeat (first | refine blk_drewN ?_ _ | refine blk_drew ?_ | refine blk_alloc ?_ _)); exact BK156.out) hg (Kd.R_ne HO_6.out BK156.out (by decide))); have n6_ := Aside0.mk (blk_grown (g := gb160) (o := .cells #[.bool t180, .slice Ao61 t181.length co61] 59 (0, 0)) (by (with_reducible repeat (first | refine blk_drewN ?_ _ | refine blk_drew ?_ | refine blk_alloc ?_ _)); exact BK160.out) hg (Kd.R_ne HO_6.out BK160.out (by decide))); have n7_ := Aside0.mk (Kd.R_after (v := (.slice (some ⟨go43, 0, none⟩) x6_2.length co63)) (v1 := (.slice (some ⟨go43, 0, none⟩) x6_2.length co63)) (ok := (fun k_ => (w.heap.size ≤ k_))) (by (with_reducible repeat (first | apply Kd.R_alloc | apply Kd.R_drewN | apply Kd.R_drew)); exact HO179.out) hg (.inl rfl)); have n8_ := Aside0.mk (Kd.V_afterv (v := (.slice (some ⟨go43, 0, none⟩) x6_2.length co63)) (v1 := (.slice (some ⟨go43, 0, none⟩) x6_2.length co63)) (ok := (fun k_ => (w.heap.size ≤ k_) ∧ k_ ≠ gb153 ∧ k_ ≠ gb154 ∧ k_ ≠ gb155 ∧ k_ ≠ gb156 ∧ k_ ≠ gb160)) (by (with_reducible repeat (first | apply Kd.V_alloc | apply Kd.V_drewN | apply Kd.V_drew)); exact Kd.V_mono HO183.out (fun _ hk => ⟨⟨hk.1, ⟨hk.2.2.1, ⟨hk.2.2.2.1, ⟨hk.2.2.2.2.1, ⟨hk.2.2.2.2.2.1, hk.2.2.2.2.2.2⟩⟩⟩⟩⟩, hk.2.1⟩)) hg (.inl rfl)); have n9_ := Aside0.mk ((by rw [hw]; exact below_set (HB.out) GB43.out : Below w.heap.size w w65)); clear HO_6; clear HO_161001; clear BK153; clear BK154; clear BK155; clear BK156; clear BK160; clear HO179; clear HO183; clear HB; have HO_6 := n0_; have HO_161001 := n1_; have BK153 := n2_; have BK154 := n3_; have BK155 := n4_; have BK156 := n5_; have BK160 := n6_; have HO179 := n7_; have HO183 := n8_; have HB := n9_; clear n0_ n1_ n2_ n3_ n4_ n5_ n6_ n7_ n8_ n9_; clear hg hw hp_))
                            go_roundg k2
                            case measure => have := HK1.out; have := HK2.out; omega
                            case rel => exact ⟨(y185), (t180), (t181), (.slice Ao61 t181.length co61), H', ⟨by have := HK1.out; have := HK2.out; omega⟩, ⟨by (with_reducible repeat (first | apply Kd.R_alloc | apply Kd.R_drewN | apply Kd.R_drew)); exact Kd.R_mono HO_6.out (fun _ hk => hk.1)⟩, ⟨by (with_reducible repeat (first | apply Kd.V_alloc | apply Kd.V_drewN | apply Kd.V_drew)); exact Kd.V_mono HO183.out (fun _ hk => ⟨hk.1.1, ⟨hk.2, ⟨hk.1.2.1, ⟨hk.1.2.2.1, ⟨hk.1.2.2.2.1, ⟨hk.1.2.2.2.2.1, hk.1.2.2.2.2.2⟩⟩⟩⟩⟩⟩)⟩, ⟨by (with_reducible repeat (first | refine blk_drewN ?_ _ | refine blk_drew ?_ | refine blk_alloc ?_ _)); exact BK153.out⟩, ⟨by (with_reducible repeat (first | refine blk_drewN ?_ _ | refine blk_drew ?_ | refine blk_alloc ?_ _)); exact BK154.out⟩, ⟨by (with_reducible repeat (first | refine blk_drewN ?_ _ | refine blk_drew ?_ | refine blk_alloc ?_ _)); exact BK155.out⟩, ⟨by (with_reducible repeat (first | refine blk_drewN ?_ _ | refine blk_drew ?_ | refine blk_alloc ?_ _)); exact BK156.out⟩, ⟨by (with_reducible repeat (first | refine blk_drewN ?_ _ | refine blk_drew ?_ | refine blk_alloc ?_ _)); exact BK160.out⟩, ⟨by repeat (first | (with_reducible first | exact HB.out | apply below_alloc | apply pw_below_drewN | apply below_drew1 | refine below_set ?_ GE153.out | refine below_set ?_ GE154.out | refine below_set ?_ GE155.out | refine below_set ?_ GE156.out | refine below_set ?_ GE160.out) | exact HB.out)⟩⟩
                          · rw [if_neg c42] at H
                            exact absurd H (by simp)
                        · rw [if_neg c41] at H
                          exact absurd H (by simp)
                      · rw [if_neg c38] at H
                        have c38b0 : decide (0 ≤ t176) = false := decide_eq_false c38
                        clear c38
                        have H' := Aside0.mk H
                        clear H
                        have hnb66 := NB160_153.out
                        have hnc66 := NB153_160.out
                        have hnb67 := NB160_154.out
                        have hnc67 := NB154_160.out
                        have hnb68 := NB160_155.out
                        have hnc68 := NB155_160.out
                        have hnb69 := NB160_156.out
                        have hnc69 := NB156_160.out
                        have hcz70_0 : wr.cell? ⟨gb160, 0, none⟩ = some (.bool x161000_2) := (blk_cell BK160.out 0).trans rfl
                        have hcz70_1 : wr.cell? ⟨gb160, 1, none⟩ = some (u161001) := (blk_cell BK160.out 1).trans rfl
                        have hfz70_0 := blk_frozen BK160.out 0
                        have hfz70_1 := blk_frozen BK160.out 1
                        have hnb71 := NB154_153.out
                        have hnc71 := NB153_154.out
                        have hnb72 := NB154_155.out
                        have hnc72 := NB155_154.out
                        have hnb73 := NB154_156.out
                        have hnc73 := NB156_154.out
                        have hcz74_0 : wr.cell? ⟨gb154, 0, none⟩ = some (.bool a1_0) := (blk_cell BK154.out 0).trans rfl
                        have hcz74_1 : wr.cell? ⟨gb154, 1, none⟩ = some (.slice A1_1 l1_1.length c1_1) := (blk_cell BK154.out 1).trans rfl
                        have hfz74_0 := blk_frozen BK154.out 0
                        have hfz74_1 := blk_frozen BK154.out 1
                        obtain ⟨Ao75, co75, eo75⟩ := Kd.V_slice HO_161001.out
                        subst eo75
                        go_wp2_with (first | ((with_reducible refine gate_callee (f := 55) rfl ?_); refine goesL_ (some 37) rfl rfl Try.func55 (by kernel_rfl) rfl #[.slice Ao75 x161001_2.length co75, .slice A1_1 l1_1.length c1_1] rfl (by (try simp only [List.map_toArray, List.map_cons, List.map_nil]); first | done | rfl | (simp only [List.length_drop, List.length_take]; rfl)) ?_; (with_reducible refine (ashlarref01_size.calls k2 _ _ x161001_2 _ _ l1_1 t176 _ ?side1 ?side2 ?side3 ?side4 A37.out).mono ?_); (case side1 => repeat (first | exact (Kd.V_reads' HO_161001.out).2.2 | (with_reducible refine Kd.C_alloc ?_ _) | (with_reducible refine Kd.C_drewN ?_ _) | (with_reducible refine Kd.C_drew ?_))); (case side2 => exact (Kd.V_reads' HO_161001.out).2.1); (case side3 => repeat (first | exact (Kd.C_below HR1_1.out HB.out) | (with_reducible refine Kd.C_alloc ?_ _) | (with_reducible refine Kd.C_drewN ?_ _) | (with_reducible refine Kd.C_drew ?_))); (case side4 => exact HC1_1.out); rintro e w76 ⟨rfl, hb⟩; refine ⟨_, rfl, ?_⟩; have n0_ := Aside0.mk (Kd.R_below (by (with_reducible repeat (first | apply Kd.R_alloc | apply Kd.R_drewN | apply Kd.R_drew)); exact HO_6.out) hb); have n1_ := Aside0.mk (Kd.V_below (by (with_reducible repeat (first | apply Kd.V_alloc | apply Kd.V_drewN | apply Kd.V_drew)); exact HO_161001.out) hb); have n2_ := Aside0.mk (blk_below (g := gb153) (o := .cells #[.bool a0_0, .slice (some ad165) l0_1.length c0_1] 59 (0, 0)) (by (with_reducible repeat (first | refine blk_drewN ?_ _ | refine blk_drew ?_ | refine blk_alloc ?_ _)); exact BK153.out) hb); have n3_ := Aside0.mk (blk_below (g := gb154) (o := .cells #[.bool a1_0, .slice A1_1 l1_1.length c1_1] 59 (0, 0)) (by (with_reducible repeat (first | refine blk_drewN ?_ _ | refine blk_drew ?_ | refine blk_alloc ?_ _)); exact BK154.out) hb); have n4_ := Aside0.mk (blk_below (g := gb155) (o := .cells #[.bool false, .slice none 0 0] 59 (0, 0)) (by (with_reducible repeat (first | refine blk_drewN ?_ _ | refine blk_drew ?_ | refine blk_alloc ?_ _)); exact BK155.out) hb); have n5_ := Aside0.mk (blk_below (g := gb156) (o := .cells #[.bool false, .slice none 0 0] 59 (0, 0)) (by (with_reducible repeat (first | refine blk_drewN ?_ _ | refine blk_drew ?_ | refine blk_alloc ?_ _)); exact BK156.out) hb); have n6_ := Aside0.mk (blk_below (g := gb160) (o := .cells #[.bool x161000_2, .slice Ao75 x161001_2.length co75] 59 (0, 0)) (by (with_reducible repeat (first | refine blk_drewN ?_ _ | refine blk_drew ?_ | refine blk_alloc ?_ _)); exact BK160.out) hb); have n7_ := Aside0.mk (below_step (by repeat (first | (with_reducible first | exact HB.out | apply below_alloc | apply pw_below_drewN | apply below_drew1 | refine below_set ?_ GE153.out | refine below_set ?_ GE154.out | refine below_set ?_ GE155.out | refine below_set ?_ GE156.out | refine below_set ?_ GE160.out) | exact HB.out)) hb); clear HO_6; clear HO_161001; clear BK153; clear BK154; clear BK155; clear BK156; clear BK160; clear HB; have HO_6 := n0_; have HO_161001 := n1_; have BK153 := n2_; have BK154 := n3_; have BK155 := n4_; have BK156 := n5_; have BK160 := n6_; have HB := n7_; clear n0_ n1_ n2_ n3_ n4_ n5_ n6_ n7_; (try clear hb); (try clear hb2); (try clear hk); (try clear hi)))
                        go_roundg k2
                        case measure => have := HK1.out; have := HK2.out; omega
                        case rel => exact ⟨(x6_2), (wrap64 (x8_1 - 1)), (x161000_2), (x161001_2), (.slice Ao75 x161001_2.length co75), (by first | rfl | (simp; done) | (simp [*]; done)), H', ⟨by have := HK1.out; have := HK2.out; omega⟩, ⟨by (with_reducible repeat (first | apply Kd.R_alloc | apply Kd.R_drewN | apply Kd.R_drew)); exact HO_6.out⟩, ⟨by (with_reducible repeat (first | apply Kd.V_alloc | apply Kd.V_drewN | apply Kd.V_drew)); exact HO_161001.out⟩, ⟨by (with_reducible repeat (first | refine blk_drewN ?_ _ | refine blk_drew ?_ | refine blk_alloc ?_ _)); exact BK153.out⟩, ⟨by (with_reducible repeat (first | refine blk_drewN ?_ _ | refine blk_drew ?_ | refine blk_alloc ?_ _)); exact BK154.out⟩, ⟨by (with_reducible repeat (first | refine blk_drewN ?_ _ | refine blk_drew ?_ | refine blk_alloc ?_ _)); exact BK155.out⟩, ⟨by (with_reducible repeat (first | refine blk_drewN ?_ _ | refine blk_drew ?_ | refine blk_alloc ?_ _)); exact BK156.out⟩, ⟨by (with_reducible repeat (first | refine blk_drewN ?_ _ | refine blk_drew ?_ | refine blk_alloc ?_ _)); exact BK160.out⟩, ⟨by repeat (first | (with_reducible first | exact HB.out | apply below_alloc | apply pw_below_drewN | apply below_drew1 | refine below_set ?_ GE153.out | refine below_set ?_ GE154.out | refine below_set ?_ GE155.out | refine below_set ?_ GE156.out | refine below_set ?_ GE160.out) | exact HB.out)⟩⟩
                · rw [if_neg c25] at H
                  exact absurd H (by simp)
              · rw [if_neg c24] at H
                exact absurd H (by simp)
            · rw [if_neg c23] at H
              exact absurd H (by simp)
          · rw [if_neg c22] at H
            have c22b0 : decide (0 ≤ x8_1) = false := decide_eq_false c22
            clear c22
            replace H := Option.bind_eq_some_iff.mp H
            obtain ⟨⟨t161, t162⟩, A770, H⟩ := H
            replace H : (some (t161, t162, x161000_1, x161001_1)) = some (r1, r2, r3, r4) := H
            have A77 := Aside0.mk A770
            clear A770
            simp only [Option.some.injEq, Prod.mk.injEq] at H
            obtain ⟨rfl, rfl, rfl, rfl⟩ := H
            try go_wp2
            have n0_ := Aside0.mk (Kd.R_drew HO_6.out)
            have n1_ := Aside0.mk (Kd.V_drew HO_161001.out)
            have n2_ := Aside0.mk (blk_drew BK153.out)
            have n3_ := Aside0.mk (blk_drew BK154.out)
            have n4_ := Aside0.mk (blk_drew BK155.out)
            have n5_ := Aside0.mk (blk_drew BK156.out)
            have n6_ := Aside0.mk (blk_drew BK160.out)
            have n7_ := Aside0.mk (below_drew1 HB.out)
            clear HO_6
            clear HO_161001
            clear BK153
            clear BK154
            clear BK155
            clear BK156
            clear BK160
            clear HB
            have HO_6 := n0_
            have HO_161001 := n1_
            have BK153 := n2_
            have BK154 := n3_
            have BK155 := n4_
            have BK156 := n5_
            have BK160 := n6_
            have HB := n7_
            clear n0_ n1_ n2_ n3_ n4_ n5_ n6_ n7_
            obtain ⟨Ao79, co79, eo79⟩ := Kd.R_slice HO_6.out
            (first | subst eo79 | (injection eo79 with f1_ f2_ f3_; have f4_ := f1_.symm; have f5_ := f3_.symm; clear f1_ f2_ f3_; subst f4_; subst f5_))
            refine start_ (n := 6) (S := fun w' => w'.cell? ⟨gb160, 0, none⟩ = some (.bool x161000_1) ∧ w'.cell? ⟨gb160, 1, none⟩ = some (u161001)) (ds := []) #[false, false, false, false, false, false] (by kernel_rfl) rfl rfl ⟨(blk_cell BK160.out 0).trans rfl, (blk_cell BK160.out 1).trans rfl⟩ (fun hHeld => ?_)
            generalize wr.drew = w78 at HO_6 HO_161001 BK153 BK154 BK155 BK156 BK160 HB hHeld ⊢
            refine pure_ (i := 0) (N := some 52) (v := ?_) (a' := ?_) #[true, false, false, false, false, false] rfl rfl (by kernel_rfl) (fun _ _ _ h => h) (Or.inl ⟨by rfl, ?_⟩) ?_ ?_
            rotate_left
            · intro w'
              go_simp
              with_reducible rfl
            rotate_left
            · simp only [Act.put, List.setIfInBounds_toArray, List.set_cons_zero, List.set_cons_succ, i64_w, i32_w]
              rfl
            refine pure_ (i := 1) (N := some 53) (v := ?_) (a' := ?_) #[true, true, false, false, false, false] rfl rfl (by kernel_rfl) (fun _ _ _ h => h) (Or.inl ⟨by rfl, ?_⟩) ?_ ?_
            rotate_left
            · intro w'
              go_simp
              with_reducible rfl
            rotate_left
            · simp only [Act.put, List.setIfInBounds_toArray, List.set_cons_zero, List.set_cons_succ, i64_w, i32_w]
              rfl
            refine take_ (i := 3) (N := some 55) (v := ?_) (a' := ?_) #[true, true, false, true, false, false] rfl rfl (by kernel_rfl) (fun _ _ _ h => h) (Or.inl ⟨by rfl, ?_⟩) hHeld ?_ ?_
            rotate_left
            · rintro w' ⟨s0, s1⟩
              go_simp
              with_reducible rfl
            rotate_left
            · simp only [Act.put, List.setIfInBounds_toArray, List.set_cons_zero, List.set_cons_succ, i64_w, i32_w]
              rfl
            refine one_ (i := 2) (N := some 54) #[true, true, true, true, false, false] rfl rfl (by kernel_rfl) (by decide) (fun K hK => ?_)
            refine goes_ Try.func51 (by kernel_rfl) rfl #[.agg #[.bool false, .slice Ao79 x6_1.length co79]] (by rfl) rfl rfl (by (try simp only [List.map_toArray, List.map_cons, List.map_nil]); first | done | rfl | (simp only [List.length_drop, List.length_take]; rfl)) ?_
            with_reducible refine (ashlarref01_cut.calls false (fun k_ => some k_ = (.slice Ao79 x6_1.length co79 : Value).ownBlock) _ _ x6_1 t161 t162 _ ?side1 A77.out).mono ?_
            (case side1 => exact Kd.R_V (Kd.R_tight rfl (Kd.R_types (Kd.R_types (Kd.R_types (Kd.R_types (Kd.R_types (HO_6.out) BK153.out (by decide)) BK154.out (by decide)) BK155.out (by decide)) BK156.out (by decide)) BK160.out (by decide))))
            rintro e w80 ⟨v163, rfl, ho0, hb⟩
            refine ⟨_, rfl, ?_⟩
            have n0_ := Aside0.mk (Kd.R_below (by (with_reducible repeat (first | apply Kd.R_alloc | apply Kd.R_drewN | apply Kd.R_drew)); exact HO_6.out) hb)
            have n1_ := Aside0.mk (Kd.V_below (by (with_reducible repeat (first | apply Kd.V_alloc | apply Kd.V_drewN | apply Kd.V_drew)); exact HO_161001.out) hb)
            have n2_ := Aside0.mk (Kd.V_lower (Kd.V_mono (ok' := fun k_ => (w.heap.size ≤ k_) ∧ k_ ≠ gb153 ∧ k_ ≠ gb154 ∧ k_ ≠ gb155 ∧ k_ ≠ gb156 ∧ k_ ≠ gb160) ho0 (fun k_ hk_ => ⟨Or.elim hk_ (fun hs_ => ((Kd.R_types (Kd.R_types (Kd.R_types (Kd.R_types (Kd.R_types (HO_6.out) BK153.out (by decide)) BK154.out (by decide)) BK155.out (by decide)) BK156.out (by decide)) BK160.out (by decide)).1 k_ hs_.symm).1.1.1.1.1) (fun hn_ => (Nat.le_trans (below_size (by repeat (first | (with_reducible first | exact HB.out | apply below_alloc | apply pw_below_drewN | apply below_drew1 | refine below_set ?_ GE153.out | refine below_set ?_ GE154.out | refine below_set ?_ GE155.out | refine below_set ?_ GE156.out | refine below_set ?_ GE160.out) | exact HB.out))) hn_)), Or.elim hk_ (fun hs_ => ((Kd.R_types (Kd.R_types (Kd.R_types (Kd.R_types (Kd.R_types (HO_6.out) BK153.out (by decide)) BK154.out (by decide)) BK155.out (by decide)) BK156.out (by decide)) BK160.out (by decide)).1 k_ hs_.symm).1.1.1.1.2) (fun hn_ => (Kd.freshB (g := gb153) (o := .cells #[.bool a0_0, .slice A0_1 l0_1.length c0_1] 59 (0, 0)) (by (with_reducible repeat (first | refine blk_drewN ?_ _ | refine blk_drew ?_ | refine blk_alloc ?_ _)); exact BK153.out) k_ hn_)), Or.elim hk_ (fun hs_ => ((Kd.R_types (Kd.R_types (Kd.R_types (Kd.R_types (Kd.R_types (HO_6.out) BK153.out (by decide)) BK154.out (by decide)) BK155.out (by decide)) BK156.out (by decide)) BK160.out (by decide)).1 k_ hs_.symm).1.1.1.2) (fun hn_ => (Kd.freshB (g := gb154) (o := .cells #[.bool a1_0, .slice A1_1 l1_1.length c1_1] 59 (0, 0)) (by (with_reducible repeat (first | refine blk_drewN ?_ _ | refine blk_drew ?_ | refine blk_alloc ?_ _)); exact BK154.out) k_ hn_)), Or.elim hk_ (fun hs_ => ((Kd.R_types (Kd.R_types (Kd.R_types (Kd.R_types (Kd.R_types (HO_6.out) BK153.out (by decide)) BK154.out (by decide)) BK155.out (by decide)) BK156.out (by decide)) BK160.out (by decide)).1 k_ hs_.symm).1.1.2) (fun hn_ => (Kd.freshB (g := gb155) (o := .cells #[.bool false, .slice none 0 0] 59 (0, 0)) (by (with_reducible repeat (first | refine blk_drewN ?_ _ | refine blk_drew ?_ | refine blk_alloc ?_ _)); exact BK155.out) k_ hn_)), Or.elim hk_ (fun hs_ => ((Kd.R_types (Kd.R_types (Kd.R_types (Kd.R_types (Kd.R_types (HO_6.out) BK153.out (by decide)) BK154.out (by decide)) BK155.out (by decide)) BK156.out (by decide)) BK160.out (by decide)).1 k_ hs_.symm).1.2) (fun hn_ => (Kd.freshB (g := gb156) (o := .cells #[.bool false, .slice none 0 0] 59 (0, 0)) (by (with_reducible repeat (first | refine blk_drewN ?_ _ | refine blk_drew ?_ | refine blk_alloc ?_ _)); exact BK156.out) k_ hn_)), Or.elim hk_ (fun hs_ => ((Kd.R_types (Kd.R_types (Kd.R_types (Kd.R_types (Kd.R_types (HO_6.out) BK153.out (by decide)) BK154.out (by decide)) BK155.out (by decide)) BK156.out (by decide)) BK160.out (by decide)).1 k_ hs_.symm).2) (fun hn_ => (Kd.freshB (g := gb160) (o := .cells #[.bool x161000_1, u161001] 59 (0, 0)) (by (with_reducible repeat (first | refine blk_drewN ?_ _ | refine blk_drew ?_ | refine blk_alloc ?_ _)); exact BK160.out) k_ hn_))⟩)) (below_size (by repeat (first | (with_reducible first | exact HB.out | apply below_alloc | apply pw_below_drewN | apply below_drew1 | refine below_set ?_ GE153.out | refine below_set ?_ GE154.out | refine below_set ?_ GE155.out | refine below_set ?_ GE156.out | refine below_set ?_ GE160.out) | exact HB.out))))
            have n3_ := Aside0.mk (blk_below (g := gb153) (o := .cells #[.bool a0_0, .slice A0_1 l0_1.length c0_1] 59 (0, 0)) (by (with_reducible repeat (first | refine blk_drewN ?_ _ | refine blk_drew ?_ | refine blk_alloc ?_ _)); exact BK153.out) hb)
            have n4_ := Aside0.mk (blk_below (g := gb154) (o := .cells #[.bool a1_0, .slice A1_1 l1_1.length c1_1] 59 (0, 0)) (by (with_reducible repeat (first | refine blk_drewN ?_ _ | refine blk_drew ?_ | refine blk_alloc ?_ _)); exact BK154.out) hb)
            have n5_ := Aside0.mk (blk_below (g := gb155) (o := .cells #[.bool false, .slice none 0 0] 59 (0, 0)) (by (with_reducible repeat (first | refine blk_drewN ?_ _ | refine blk_drew ?_ | refine blk_alloc ?_ _)); exact BK155.out) hb)
            have n6_ := Aside0.mk (blk_below (g := gb156) (o := .cells #[.bool false, .slice none 0 0] 59 (0, 0)) (by (with_reducible repeat (first | refine blk_drewN ?_ _ | refine blk_drew ?_ | refine blk_alloc ?_ _)); exact BK156.out) hb)
            have n7_ := Aside0.mk (blk_below (g := gb160) (o := .cells #[.bool x161000_1, u161001] 59 (0, 0)) (by (with_reducible repeat (first | refine blk_drewN ?_ _ | refine blk_drew ?_ | refine blk_alloc ?_ _)); exact BK160.out) hb)
            have n8_ := Aside0.mk (below_step (by repeat (first | (with_reducible first | exact HB.out | apply below_alloc | apply pw_below_drewN | apply below_drew1 | refine below_set ?_ GE153.out | refine below_set ?_ GE154.out | refine below_set ?_ GE155.out | refine below_set ?_ GE156.out | refine below_set ?_ GE160.out) | exact HB.out)) hb)
            clear HO_6
            clear HO_161001
            clear BK153
            clear BK154
            clear BK155
            clear BK156
            clear BK160
            clear HB
            have HO_6 := n0_
            have HO_161001 := n1_
            have HO164 := n2_
            have BK153 := n3_
            have BK154 := n4_
            have BK155 := n5_
            have BK156 := n6_
            have BK160 := n7_
            have HB := n8_
            clear n0_ n1_ n2_ n3_ n4_ n5_ n6_ n7_ n8_
            (try clear hb)
            (try clear hb2)
            (try clear hk)
            (try clear hi)
            (try clear ho0)
            obtain ⟨Ao82, co82, eo82⟩ := Kd.V_slice HO164.out
            (first | subst eo82 | (injection eo82 with f1_ f2_ f3_; have f4_ := f1_.symm; have f5_ := f3_.symm; clear f1_ f2_ f3_; subst f4_; subst f5_))
            obtain ⟨Ao85, co85, eo85⟩ := Kd.V_slice HO_161001.out
            (first | subst eo85 | (injection eo85 with f1_ f2_ f3_; have f4_ := f1_.symm; have f5_ := f3_.symm; clear f1_ f2_ f3_; subst f4_; subst f5_))
            refine hK.out _ _ ⟨(blk_cell BK160.out 0).trans rfl, (blk_cell BK160.out 1).trans rfl⟩ (fun hHeld => ?_)
            clear hK K
            refine norm_ (a' := ?_) ?_ ?_
            rotate_left
            · show Act.put _ (some 54) _ = _
              simp only [Act.put, List.setIfInBounds_toArray, List.set_cons_zero, List.set_cons_succ, i64_w, i32_w]
              rfl
            refine one_ (i := 4) (N := none) #[true, true, true, true, true, false] rfl rfl (by kernel_rfl) (by decide) (fun K hK => ?_)
            have hs81 : w80.cell? ⟨gb155, 0, none⟩ = some (.bool false) := (blk_cell BK155.out 0).trans rfl
            have hfs81 := blk_frozen BK155.out 0
            have hns81_0 := NB153_155.out
            have hns81_1 := NB154_155.out
            have hns81_3 := NB156_155.out
            have hns81_4 := NB160_155.out
            have hms81_0 := NB155_153.out
            have hms81_1 := NB155_154.out
            have hms81_3 := NB155_156.out
            have hms81_4 := NB155_160.out
            have hs83 : w80.cell? ⟨gb155, 1, none⟩ = some (.slice none 0 0) := (blk_cell BK155.out 1).trans rfl
            have hfs83 := blk_frozen BK155.out 1
            have hns83_0 := NB153_155.out
            have hns83_1 := NB154_155.out
            have hns83_3 := NB156_155.out
            have hns83_4 := NB160_155.out
            have hms83_0 := NB155_153.out
            have hms83_1 := NB155_154.out
            have hms83_3 := NB155_156.out
            have hms83_4 := NB155_160.out
            refine skip_ (w1 := ?_) (by rfl) rfl ?_ ?_
            rotate_left
            · go_simp
              rfl
            refine hK.out _ _ ⟨((cell_far (p := ⟨gb155, _, none⟩) NB160_155.out _).trans (((cell_far (p := ⟨gb155, _, none⟩) NB160_155.out _).trans (hHeld.1)))), ((cell_far (p := ⟨gb155, _, none⟩) NB160_155.out _).trans (((cell_far (p := ⟨gb155, _, none⟩) NB160_155.out _).trans (hHeld.2))))⟩ (fun hHeld => ?_)
            clear hK K
            refine one_ (i := 5) (N := none) #[true, true, true, true, true, true] rfl rfl (by kernel_rfl) (by decide) (fun K hK => ?_)
            have hs84 : w80.cell? ⟨gb156, 0, none⟩ = some (.bool false) := (blk_cell BK156.out 0).trans rfl
            have hfs84 := blk_frozen BK156.out 0
            have hns84_0 := NB153_156.out
            have hns84_1 := NB154_156.out
            have hns84_2 := NB155_156.out
            have hns84_4 := NB160_156.out
            have hms84_0 := NB156_153.out
            have hms84_1 := NB156_154.out
            have hms84_2 := NB156_155.out
            have hms84_4 := NB156_160.out
            have hs86 : w80.cell? ⟨gb156, 1, none⟩ = some (.slice none 0 0) := (blk_cell BK156.out 1).trans rfl
            have hfs86 := blk_frozen BK156.out 1
            have hns86_0 := NB153_156.out
            have hns86_1 := NB154_156.out
            have hns86_2 := NB155_156.out
            have hns86_4 := NB160_156.out
            have hms86_0 := NB156_153.out
            have hms86_1 := NB156_154.out
            have hms86_2 := NB156_155.out
            have hms86_4 := NB156_160.out
            refine skip_ (w1 := ?_) (by rfl) rfl ?_ ?_
            rotate_left
            · go_simp
              rfl
            refine hK.out _ _ ⟨((cell_far (p := ⟨gb156, _, none⟩) NB160_156.out _).trans (((cell_far (p := ⟨gb156, _, none⟩) NB160_156.out _).trans (hHeld.1)))), ((cell_far (p := ⟨gb156, _, none⟩) NB160_156.out _).trans (((cell_far (p := ⟨gb156, _, none⟩) NB160_156.out _).trans (hHeld.2))))⟩ (fun hHeld => ?_)
            clear hK K
            refine done_ (by kernel_rfl) ?_
            try go_wp2
            refine bodyPost_ret (results_cc rfl _ _ gb155 gb156 59 59 #[.bool t161, .slice Ao82 t162.length co82] #[.bool x161000_1, .slice Ao85 x161001_1.length co85] (0, 0) (0, 0) _ _ rfl (by (with_reducible repeat (first | refine blk_drewN ?_ _ | refine blk_drew ?_ | refine blk_alloc ?_ _)); refine blk_far ?_ NB155_156.out _; (with_reducible repeat (first | refine blk_drewN ?_ _ | refine blk_drew ?_ | refine blk_alloc ?_ _)); refine blk_far ?_ NB155_156.out _; (with_reducible repeat (first | refine blk_drewN ?_ _ | refine blk_drew ?_ | refine blk_alloc ?_ _)); refine blk_put (cs := #[.bool t161, .slice none 0 0]) ?_ 1 _ rfl; (with_reducible repeat (first | refine blk_drewN ?_ _ | refine blk_drew ?_ | refine blk_alloc ?_ _)); refine blk_put (cs := #[.bool false, .slice none 0 0]) ?_ 0 _ rfl; (with_reducible repeat (first | refine blk_drewN ?_ _ | refine blk_drew ?_ | refine blk_alloc ?_ _)); exact BK155.out) Try.underlying59 rfl (by kernel_rfl) rfl (by (with_reducible repeat (first | refine blk_drewN ?_ _ | refine blk_drew ?_ | refine blk_alloc ?_ _)); refine blk_put (cs := #[.bool x161000_1, .slice none 0 0]) ?_ 1 _ rfl; (with_reducible repeat (first | refine blk_drewN ?_ _ | refine blk_drew ?_ | refine blk_alloc ?_ _)); refine blk_put (cs := #[.bool false, .slice none 0 0]) ?_ 0 _ rfl; (with_reducible repeat (first | refine blk_drewN ?_ _ | refine blk_drew ?_ | refine blk_alloc ?_ _)); refine blk_far ?_ NB156_155.out _; (with_reducible repeat (first | refine blk_drewN ?_ _ | refine blk_drew ?_ | refine blk_alloc ?_ _)); refine blk_far ?_ NB156_155.out _; (with_reducible repeat (first | refine blk_drewN ?_ _ | refine blk_drew ?_ | refine blk_alloc ?_ _)); exact BK156.out) Try.underlying59 rfl (by kernel_rfl)) rfl ?_
            exact ⟨_, _, by first | rfl | (simp [errW_none, errW_some] <;> rfl) | (simp [*, errW_none, errW_some] <;> rfl), by (with_reducible repeat (first | apply Kd.V_alloc | apply Kd.V_drewN | apply Kd.V_drew)); exact Kd.V_mono (Kd.V_far (p := ⟨gb156, 1, none⟩) (Kd.V_far (p := ⟨gb156, 0, none⟩) (Kd.V_far (p := ⟨gb155, 1, none⟩) (Kd.V_far (p := ⟨gb155, 0, none⟩) (Kd.V_mono (Kd.V_mono HO164.out (fun k_ hk => (⟨hk, hk.2.2.2.1⟩ : _ ∧ k_ ≠ gb155))) (fun k_ hk => (⟨hk, hk.1.2.2.2.2.1⟩ : _ ∧ k_ ≠ gb156))) (fun _ hk => hk.1.2) (.bool t161)) (fun _ hk => hk.1.2) (.slice Ao82 t162.length co82)) (fun _ hk => hk.2) (.bool x161000_1)) (fun _ hk => hk.2) (.slice Ao85 x161001_1.length co85)) (fun _ hk => hk.1.1.1), by (with_reducible repeat (first | apply Kd.V_alloc | apply Kd.V_drewN | apply Kd.V_drew)); exact Kd.V_mono (Kd.V_far (p := ⟨gb156, 1, none⟩) (Kd.V_far (p := ⟨gb156, 0, none⟩) (Kd.V_far (p := ⟨gb155, 1, none⟩) (Kd.V_far (p := ⟨gb155, 0, none⟩) (Kd.V_mono (Kd.V_mono HO_161001.out (fun k_ hk => (⟨hk, hk.2.2.2.2.1⟩ : _ ∧ k_ ≠ gb155))) (fun k_ hk => (⟨hk, hk.1.2.2.2.2.2.1⟩ : _ ∧ k_ ≠ gb156))) (fun _ hk => hk.1.2) (.bool t161)) (fun _ hk => hk.1.2) (.slice Ao82 t162.length co82)) (fun _ hk => hk.2) (.bool x161000_1)) (fun _ hk => hk.2) (.slice Ao85 x161001_1.length co85)) (fun _ hk => hk.1.1.1), by repeat (first | (with_reducible first | exact HB.out | apply below_alloc | apply pw_below_drewN | apply below_drew1 | refine below_set ?_ GE153.out | refine below_set ?_ GE154.out | refine below_set ?_ GE155.out | refine below_set ?_ GE156.out | refine below_set ?_ GE160.out) | exact HB.out)⟩
    · rw [if_neg c4] at H
      exact absurd H (by simp)
  · rw [if_neg c3] at H
    exact absurd H (by simp)

end Go.Proofs.Ytoodfkbciodapaa.PNumReckons
