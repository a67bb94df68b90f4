-- Written by a program of this session (myprint.py) out of the translation, with contracts of this session given.
import Derived.Test.YtnggikhpnophgaaPNumOrderx0
import Derived.Test.YtnggikhpnophgaaPNumOrderx1
import Derived.Test.YtnggikhpnophgaaPNumOrderx2
namespace Go.Proofs.Ytnggikhpnophgaa.PNumOrder
open Go.RowKit Go.Proofs.Ytnggikhpnophgaa.Given Go.Proofs.YtnggikhpnophgaaW.PrintWords Go.Proofs.YtnggikhpnophgaaW.PrintLast Go.Proofs.YtnggikhpnophgaaW.PrintMore
attribute [local go_sem] max2_int min2_int max_two min_two max_three min_three max_four min_four   -- for this text's walks alone
set_option linter.unusedVariables false
set_option linter.unusedSimpArgs false

attribute [local go_sem high] eqA24
/-! ### ashlarlaw01_NumOrder: function 5 -/
mutual
def ashlarlaw01_NumOrder.j0 : Nat → Bool → Bool → Int → Int → Int → Int → Int → Int → Option (Bool)
  | 0, _, _, _, _, _, _, _, _ => none
  | k + 1, x13, x47, x119000, x119001, x120000, x120001, x124000, x124001 => if x47 = true then (some x13) else ((num_Rat_Cmp.f x119000 x119001 x120000 x120001).bind fun t124 => ((num_Rat_Cmp.f x120000 x120001 x119000 x119001).bind fun t125 => (if t124 = (wrap64 (-t125)) then (if ((t124 == 0) != (x119000 == x120000 && (x119001 == x120001))) = true then (ashlarlaw01_NumOrder.j1 k x13 t124 true x119000 x119001 x120000 x120001 x124000 x124001) else (if t124 ≤ 0 then ((num_Rat_Cmp.f x120000 x120001 x124000 x124001).bind fun t126 => (if t126 ≤ 0 then ((num_Rat_Cmp.f x119000 x119001 x124000 x124001).bind fun t127 => (ashlarlaw01_NumOrder.j1 k x13 t124 (decide (t127 > 0)) x119000 x119001 x120000 x120001 x124000 x124001)) else (ashlarlaw01_NumOrder.j1 k x13 t124 false x119000 x119001 x120000 x120001 x124000 x124001))) else (ashlarlaw01_NumOrder.j1 k x13 t124 false x119000 x119001 x120000 x120001 x124000 x124001))) else (ashlarlaw01_NumOrder.j1 k x13 t124 true x119000 x119001 x120000 x120001 x124000 x124001))))
def ashlarlaw01_NumOrder.j1 : Nat → Bool → Int → Bool → Int → Int → Int → Int → Int → Int → Option (Bool)
  | 0, _, _, _, _, _, _, _, _, _ => none
  | k + 1, x13, x19, x81, x119000, x119001, x120000, x120001, x124000, x124001 => if x81 = true then (some false) else ((num_Rat_Plus.f x119000 x119001 x124000 x124001).bind fun bt128 => ((num_Rat_Plus.f x120000 x120001 x124000 x124001).bind fun bt132 => (if bt128.2.2 = true then (if bt132.2.2 = true then ((num_Rat_Cmp.f bt128.1 bt128.2.1 bt132.1 bt132.2.1).bind fun t136 => (ashlarlaw01_NumOrder.j2 k x13 x19 (t136 != x19) x119000 x119001 x120000 x120001)) else (ashlarlaw01_NumOrder.j2 k x13 x19 false x119000 x119001 x120000 x120001)) else (ashlarlaw01_NumOrder.j2 k x13 x19 false x119000 x119001 x120000 x120001))))
def ashlarlaw01_NumOrder.j2 : Nat → Bool → Int → Bool → Int → Int → Int → Int → Option (Bool)
  | 0, _, _, _, _, _, _, _ => none
  | k + 1, x13, x19, x104, x119000, x119001, x120000, x120001 => if x104 = true then (some false) else ((num_Rat_Minus.f x119000 x119001 x120000 x120001).bind fun bt137 => (if x13 = true then (if bt137.2.2 = true then ((num_Whole.f 0).bind fun bt141 => ((num_Rat_Cmp.f bt137.1 bt137.2.1 bt141.1 bt141.2).bind fun t143 => (some (t143 == x19)))) else (some true)) else (some false)))
end
def ashlarlaw01_NumOrder.f (k : Nat) (a0 : Int) (a1 : Int) (a2 : Int) (a3 : Int) (a4 : Int) (a5 : Int) : Option (Bool) := (ashlarlaw01_shown.f).bind fun t112 => ((ashlarlaw01_rats.f a0 a1 a2 a3).bind fun bt113 => ((num_Make.f a4 a5).bind fun bt120 => (if bt113.2.2.2.2 = true then (ashlarlaw01_NumOrder.j0 k t112 (!bt120.2.2) bt113.1 bt113.2.1 bt113.2.2.1 bt113.2.2.2.1 bt120.1 bt120.2.1) else (ashlarlaw01_NumOrder.j0 k t112 true bt113.1 bt113.2.1 bt113.2.2.1 bt113.2.2.2.1 bt120.1 bt120.2.1))))
theorem ashlarlaw01_NumOrder.mono_l : ∀ k, (∀ y0 y1 y2 y3 y4 y5 y6 y7, LeO (ashlarlaw01_NumOrder.j0 k y0 y1 y2 y3 y4 y5 y6 y7) (ashlarlaw01_NumOrder.j0 (k + 1) y0 y1 y2 y3 y4 y5 y6 y7)) ∧ (∀ y0 y1 y2 y3 y4 y5 y6 y7 y8, LeO (ashlarlaw01_NumOrder.j1 k y0 y1 y2 y3 y4 y5 y6 y7 y8) (ashlarlaw01_NumOrder.j1 (k + 1) y0 y1 y2 y3 y4 y5 y6 y7 y8)) ∧ (∀ y0 y1 y2 y3 y4 y5 y6, LeO (ashlarlaw01_NumOrder.j2 k y0 y1 y2 y3 y4 y5 y6) (ashlarlaw01_NumOrder.j2 (k + 1) y0 y1 y2 y3 y4 y5 y6))
  | 0 => ⟨fun _ _ _ _ _ _ _ _ r h => by simp [ashlarlaw01_NumOrder.j0] at h, fun _ _ _ _ _ _ _ _ _ r h => by simp [ashlarlaw01_NumOrder.j1] at h, fun _ _ _ _ _ _ _ r h => by simp [ashlarlaw01_NumOrder.j2] at h⟩
  | k + 1 => by
    obtain ⟨ih0, ih1, ih2⟩ := ashlarlaw01_NumOrder.mono_l k
    refine ⟨?_, ?_, ?_⟩
    · intro y0 y1 y2 y3 y4 y5 y6 y7
      unfold ashlarlaw01_NumOrder.j0
      repeat' first
      | (with_reducible exact ih0 _ _ _ _ _ _ _ _)
      | (with_reducible exact ih1 _ _ _ _ _ _ _ _ _)
      | (with_reducible exact ih2 _ _ _ _ _ _ _)
      | (with_reducible exact LeO.refl _)
      | (with_reducible exact LeO.none _)
      | (with_reducible refine LeO.ite ?_ ?_)
      | (with_reducible refine LeO.bind ?_ (fun _ => ?_))
      | exact ih0 _ _ _ _ _ _ _ _
      | exact ih1 _ _ _ _ _ _ _ _ _
      | exact ih2 _ _ _ _ _ _ _
      | exact LeO.none _
      | refine LeO.ite ?_ ?_
      | refine LeO.bind ?_ (fun _ => ?_)
    · intro y0 y1 y2 y3 y4 y5 y6 y7 y8
      unfold ashlarlaw01_NumOrder.j1
      repeat' first
      | (with_reducible exact ih0 _ _ _ _ _ _ _ _)
      | (with_reducible exact ih1 _ _ _ _ _ _ _ _ _)
      | (with_reducible exact ih2 _ _ _ _ _ _ _)
      | (with_reducible exact LeO.refl _)
      | (with_reducible exact LeO.none _)
      | (with_reducible refine LeO.ite ?_ ?_)
      | (with_reducible refine LeO.bind ?_ (fun _ => ?_))
      | exact ih0 _ _ _ _ _ _ _ _
      | exact ih1 _ _ _ _ _ _ _ _ _
      | exact ih2 _ _ _ _ _ _ _
      | exact LeO.none _
      | refine LeO.ite ?_ ?_
      | refine LeO.bind ?_ (fun _ => ?_)
    · intro y0 y1 y2 y3 y4 y5 y6
      unfold ashlarlaw01_NumOrder.j2
      repeat' first
      | (with_reducible exact ih0 _ _ _ _ _ _ _ _)
      | (with_reducible exact ih1 _ _ _ _ _ _ _ _ _)
      | (with_reducible exact ih2 _ _ _ _ _ _ _)
      | (with_reducible exact LeO.refl _)
      | (with_reducible exact LeO.none _)
      | (with_reducible refine LeO.ite ?_ ?_)
      | (with_reducible refine LeO.bind ?_ (fun _ => ?_))
      | exact ih0 _ _ _ _ _ _ _ _
      | exact ih1 _ _ _ _ _ _ _ _ _
      | exact ih2 _ _ _ _ _ _ _
      | exact LeO.none _
      | refine LeO.ite ?_ ?_
      | refine LeO.bind ?_ (fun _ => ?_)
theorem ashlarlaw01_NumOrder.mono : ∀ a0 a1 a2 a3 a4 a5 k, LeO (ashlarlaw01_NumOrder.f k a0 a1 a2 a3 a4 a5) (ashlarlaw01_NumOrder.f (k + 1) a0 a1 a2 a3 a4 a5) := by
  intro a0 a1 a2 a3 a4 a5 k
  obtain ⟨ih0, ih1, ih2⟩ := ashlarlaw01_NumOrder.mono_l k
  unfold ashlarlaw01_NumOrder.f
  repeat' first
      | (with_reducible exact ih0 _ _ _ _ _ _ _ _)
      | (with_reducible exact ih1 _ _ _ _ _ _ _ _ _)
      | (with_reducible exact ih2 _ _ _ _ _ _ _)
      | (with_reducible exact LeO.refl _)
      | (with_reducible exact LeO.none _)
      | (with_reducible refine LeO.ite ?_ ?_)
      | (with_reducible refine LeO.bind ?_ (fun _ => ?_))
      | exact ih0 _ _ _ _ _ _ _ _
      | exact ih1 _ _ _ _ _ _ _ _ _
      | exact ih2 _ _ _ _ _ _ _
      | exact LeO.none _
      | refine LeO.ite ?_ ?_
      | refine LeO.bind ?_ (fun _ => ?_)
def ashlarlaw01_NumOrder.T14 : Bool × List (List Nat × List Nat) := (true, [([], []), ([0], [0]), ([1], [1]), ([2, 1], [1, 2]), ([3, 1, 1], [1, 3]), ([4], [4]), ([4, 4], [4]), ([5, 6, 6, 4], [4, 5, 6]), ([4], [4]), ([7, 8, 4], [4, 7, 8]), ([4, 9, 1], [1, 4, 9]), ([1, 10], [1, 10]), ([11, 7, 0, 1, 2, 3, 4, 5, 6, 7, 8, 9, 10, 11], [11])])
def ashlarlaw01_NumOrder.B14 : List Nat := [0, 1, 3, 7, 15, 31, 31, 127, 31, 511, 1023, 2047, 4095]
theorem ashlarlaw01_NumOrder.tab14 : rtab .any (opsOf Try.f5 14) = ashlarlaw01_NumOrder.T14 := by kernel_rfl
theorem ashlarlaw01_NumOrder.bits14 : waitsOk ashlarlaw01_NumOrder.T14.2 ashlarlaw01_NumOrder.B14 = true := by kernel_rfl
set_option maxHeartbeats 8000000 in
set_option maxRecDepth 100000 in
theorem ashlarlaw01_NumOrder.calls (k : Nat) (a0 : Int) (a1 : Int) (a2 : Int) (a3 : Int) (a4 : Int) (a5 : Int) (r : Bool) (w : World) (h : ashlarlaw01_NumOrder.f k a0 a1 a2 a3 a4 a5 = some r) :
    Calls Try.prog 5 #[.int .i64 a0, .int .i64 a1, .int .i64 a2, .int .i64 a3, .int .i64 a4, .int .i64 a5] w fun e w' => e = .returned (.bool r) ∧ Below w.heap.size w w' := by
  have hu24 := Try.underlying24
  have HB := Aside0.mk (Below.refl w.heap.size w)
  have H : ((ashlarlaw01_shown.f).bind fun t112 => ((ashlarlaw01_rats.f a0 a1 a2 a3).bind fun bt113 => ((num_Make.f a4 a5).bind fun bt120 => (if bt113.2.2.2.2 = true then (ashlarlaw01_NumOrder.j0 k t112 (!bt120.2.2) bt113.1 bt113.2.1 bt113.2.2.1 bt113.2.2.2.1 bt120.1 bt120.2.1) else (ashlarlaw01_NumOrder.j0 k t112 true bt113.1 bt113.2.1 bt113.2.2.1 bt113.2.2.2.1 bt120.1 bt120.2.1))))) = some r := h
  clear h
  replace H := Option.bind_eq_some_iff.mp H
  obtain ⟨t112, A70, H⟩ := H
  replace H : ((ashlarlaw01_rats.f a0 a1 a2 a3).bind fun bt113 => ((num_Make.f a4 a5).bind fun bt120 => (if bt113.2.2.2.2 = true then (ashlarlaw01_NumOrder.j0 k t112 (!bt120.2.2) bt113.1 bt113.2.1 bt113.2.2.1 bt113.2.2.2.1 bt120.1 bt120.2.1) else (ashlarlaw01_NumOrder.j0 k t112 true bt113.1 bt113.2.1 bt113.2.2.1 bt113.2.2.2.1 bt120.1 bt120.2.1)))) = some r := H
  have A7 := Aside0.mk A70
  clear A70
  replace H := Option.bind_eq_some_iff.mp H
  obtain ⟨⟨t113, t114, t115, t116, t117⟩, A80, H⟩ := H
  replace H : ((num_Make.f a4 a5).bind fun bt120 => (if t117 = true then (ashlarlaw01_NumOrder.j0 k t112 (!bt120.2.2) t113 t114 t115 t116 bt120.1 bt120.2.1) else (ashlarlaw01_NumOrder.j0 k t112 true t113 t114 t115 t116 bt120.1 bt120.2.1))) = some r := H
  have A8 := Aside0.mk A80
  clear A80
  replace H := Option.bind_eq_some_iff.mp H
  obtain ⟨⟨t120, t121, t122⟩, A90, H⟩ := H
  replace H : (if t117 = true then (ashlarlaw01_NumOrder.j0 k t112 (!t122) t113 t114 t115 t116 t120 t121) else (ashlarlaw01_NumOrder.j0 k t112 true t113 t114 t115 t116 t120 t121)) = some r := H
  have A9 := Aside0.mk A90
  clear A90
  have HC10 := Aside0.mk H
  clear H
  go_enter Try.func5, Try.ntmps5
  go_upto_region 4 with (first | ((with_reducible refine gate_callee (f := 14) rfl ?_); refine goesL_ (some 26) rfl rfl Try.func14 (by kernel_rfl) rfl #[] rfl (by (try simp only [List.map_toArray, List.map_cons, List.map_nil]); first | done | rfl | (simp only [List.length_drop, List.length_take]; rfl)) ?_; (with_reducible refine (ashlarlaw01_shown.calls  t112 _ A7.out).mono ?_); rintro e w11 ⟨rfl, hb⟩; refine ⟨_, rfl, ?_⟩; have n0_ := Aside0.mk (below_step (by repeat (first | (with_reducible first | exact HB.out | apply below_alloc | apply pw_below_drewN | apply below_drew1) | exact HB.out)) hb); clear HB; have HB := n0_; clear n0_; (try clear hb); (try clear hb2); (try clear hk); (try clear hi)) | ((with_reducible refine gate_callee (f := 22) rfl ?_); refine goesL_ (some 32) rfl rfl Try.func22 (by kernel_rfl) rfl #[.int .i64 a0, .int .i64 a1, .int .i64 a2, .int .i64 a3] rfl (by (try simp only [List.map_toArray, List.map_cons, List.map_nil]); first | done | rfl | (simp only [List.length_drop, List.length_take]; rfl)) ?_; (with_reducible refine (ashlarlaw01_rats.calls a0 a1 a2 a3 t113 t114 t115 t116 t117 _ A8.out).mono ?_); rintro e w12 ⟨rfl, hb⟩; refine ⟨_, rfl, ?_⟩; have n0_ := Aside0.mk (below_step (by repeat (first | (with_reducible first | exact HB.out | apply below_alloc | apply pw_below_drewN | apply below_drew1) | exact HB.out)) hb); clear HB; have HB := n0_; clear n0_; (try clear hb); (try clear hb2); (try clear hk); (try clear hi)) | ((with_reducible refine gate_dst (N := 14) rfl ?_); refine box_event ?hg (N := 14) ?hd (cs := #[.int .i64 0, .int .i64 0]) (t := 24) ?hr ?_; (case hd => rfl); (case hg => rfl); (case hr => first | (go_simp; done) | (go_simp; rfl)); intro gb118 hg w13 hbox hb; have n0_ := Aside0.mk (below_step (by repeat (first | (with_reducible first | exact HB.out | apply below_alloc | apply pw_below_drewN | apply below_drew1) | exact HB.out)) hb); have n1_ := Aside0.mk (hbox); have n2_ := Aside0.mk ((by rw [hg]; exact (below_size (by repeat (first | (with_reducible first | exact HB.out | apply below_alloc | apply pw_below_drewN | apply below_drew1) | exact HB.out))) : w.heap.size ≤ gb118)); have n3_ := Aside0.mk ((by rw [hg]; exact (below_size (by repeat (first | (with_reducible first | exact HB.out | apply below_alloc | apply pw_below_drewN | apply below_drew1) | exact HB.out))) : w.heap.size ≤ gb118)); clear HB; have HB := n0_; have BK118 := n1_; have GW118 := n2_; have GE118 := n3_; clear n0_ n1_ n2_ n3_; clear hb hbox hg) | ((with_reducible refine gate_dst (N := 15) rfl ?_); refine box_event ?hg (N := 15) ?hd (cs := #[.int .i64 0, .int .i64 0]) (t := 24) ?hr ?_; (case hd => rfl); (case hg => rfl); (case hr => first | (go_simp; done) | (go_simp; rfl)); intro gb119 hg w14 hbox hb; have n0_ := Aside0.mk (blk_below (g := gb118) (o := .cells #[.int .i64 0, .int .i64 0] 24 (0, 0)) (by (with_reducible repeat (first | refine blk_drewN ?_ _ | refine blk_drew ?_ | refine blk_alloc ?_ _)); exact BK118.out) hb); have n1_ := Aside0.mk (below_step (by repeat (first | (with_reducible first | exact HB.out | apply below_alloc | apply pw_below_drewN | apply below_drew1 | refine below_set ?_ GE118.out) | exact HB.out)) hb); have n2_ := Aside0.mk (hbox); have n3_ := Aside0.mk ((by rw [hg]; exact (below_size (by repeat (first | (with_reducible first | exact HB.out | apply below_alloc | apply pw_below_drewN | apply below_drew1 | refine below_set ?_ GE118.out) | exact HB.out))) : w.heap.size ≤ gb119)); have n4_ := Aside0.mk ((by rw [hg]; exact (below_size (by repeat (first | (with_reducible first | exact HB.out | apply below_alloc | apply pw_below_drewN | apply below_drew1 | refine below_set ?_ GE118.out) | exact HB.out))) : w.heap.size ≤ gb119)); have n5_ := Aside0.mk ((by rw [hg]; exact Nat.ne_of_lt (blk_lt (g := gb118) (o := .cells #[.int .i64 0, .int .i64 0] 24 (0, 0)) (by (with_reducible repeat (first | refine blk_drewN ?_ _ | refine blk_drew ?_ | refine blk_alloc ?_ _)); exact BK118.out)) : gb118 ≠ gb119)); have n6_ := Aside0.mk ((by rw [hg]; exact Nat.ne_of_gt (blk_lt (g := gb118) (o := .cells #[.int .i64 0, .int .i64 0] 24 (0, 0)) (by (with_reducible repeat (first | refine blk_drewN ?_ _ | refine blk_drew ?_ | refine blk_alloc ?_ _)); exact BK118.out)) : gb119 ≠ gb118)); clear BK118; clear HB; have BK118 := n0_; have HB := n1_; have BK119 := n2_; have GW119 := n3_; have GE119 := n4_; have NB118_119 := n5_; have NB119_118 := n6_; clear n0_ n1_ n2_ n3_ n4_ n5_ n6_; clear hb hbox hg; have hnb15 := NB118_119.out; have hnc15 := NB119_118.out; have hcz16_0 : w14.cell? ⟨gb118, 0, none⟩ = some (.int .i64 0) := (blk_cell BK118.out 0).trans rfl; have hcz16_1 : w14.cell? ⟨gb118, 1, none⟩ = some (.int .i64 0) := (blk_cell BK118.out 1).trans rfl; have hfz16_0 := blk_frozen BK118.out 0; have hfz16_1 := blk_frozen BK118.out 1; have hcz17_0 : w14.cell? ⟨gb119, 0, none⟩ = some (.int .i64 0) := (blk_cell BK119.out 0).trans rfl; have hcz17_1 : w14.cell? ⟨gb119, 1, none⟩ = some (.int .i64 0) := (blk_cell BK119.out 1).trans rfl; have hfz17_0 := blk_frozen BK119.out 0; have hfz17_1 := blk_frozen BK119.out 1) | ((with_reducible refine gate_callee (f := 15) rfl ?_); refine goesL_ (some 39) rfl rfl Try.func15 (by kernel_rfl) rfl #[.int .i64 a4, .int .i64 a5] rfl (by (try simp only [List.map_toArray, List.map_cons, List.map_nil]); first | done | rfl | (simp only [List.length_drop, List.length_take]; rfl)) ?_; (with_reducible refine (num_Make.calls a4 a5 t120 t121 t122 _ A9.out).mono ?_); rintro e w18 ⟨rfl, hb⟩; refine ⟨_, rfl, ?_⟩; have n0_ := Aside0.mk (blk_below (g := gb118) (o := .cells #[.int .i64 t113, .int .i64 t114] 24 (0, 0)) (by (with_reducible repeat (first | refine blk_drewN ?_ _ | refine blk_drew ?_ | refine blk_alloc ?_ _)); refine blk_far ?_ NB118_119.out _; (with_reducible repeat (first | refine blk_drewN ?_ _ | refine blk_drew ?_ | refine blk_alloc ?_ _)); refine blk_far ?_ NB118_119.out _; (with_reducible repeat (first | refine blk_drewN ?_ _ | refine blk_drew ?_ | refine blk_alloc ?_ _)); refine blk_put (cs := #[.int .i64 t113, .int .i64 0]) ?_ 1 _ rfl; (with_reducible repeat (first | refine blk_drewN ?_ _ | refine blk_drew ?_ | refine blk_alloc ?_ _)); refine blk_put (cs := #[.int .i64 0, .int .i64 0]) ?_ 0 _ rfl; (with_reducible repeat (first | refine blk_drewN ?_ _ | refine blk_drew ?_ | refine blk_alloc ?_ _)); exact BK118.out) hb); have n1_ := Aside0.mk (blk_below (g := gb119) (o := .cells #[.int .i64 t115, .int .i64 t116] 24 (0, 0)) (by (with_reducible repeat (first | refine blk_drewN ?_ _ | refine blk_drew ?_ | refine blk_alloc ?_ _)); refine blk_put (cs := #[.int .i64 t115, .int .i64 0]) ?_ 1 _ rfl; (with_reducible repeat (first | refine blk_drewN ?_ _ | refine blk_drew ?_ | refine blk_alloc ?_ _)); refine blk_put (cs := #[.int .i64 0, .int .i64 0]) ?_ 0 _ rfl; (with_reducible repeat (first | refine blk_drewN ?_ _ | refine blk_drew ?_ | refine blk_alloc ?_ _)); refine blk_far ?_ NB119_118.out _; (with_reducible repeat (first | refine blk_drewN ?_ _ | refine blk_drew ?_ | refine blk_alloc ?_ _)); refine blk_far ?_ NB119_118.out _; (with_reducible repeat (first | refine blk_drewN ?_ _ | refine blk_drew ?_ | refine blk_alloc ?_ _)); exact BK119.out) hb); have n2_ := Aside0.mk (below_step (by repeat (first | (with_reducible first | exact HB.out | apply below_alloc | apply pw_below_drewN | apply below_drew1 | refine below_set ?_ GE118.out | refine below_set ?_ GE119.out) | exact HB.out)) hb); clear BK118; clear BK119; clear HB; have BK118 := n0_; have BK119 := n1_; have HB := n2_; clear n0_ n1_ n2_; (try clear hb); (try clear hb2); (try clear hk); (try clear hi)) | ((with_reducible refine gate_dst (N := 17) rfl ?_); refine box_event ?hg (N := 17) ?hd (cs := #[.int .i64 0, .int .i64 0]) (t := 24) ?hr ?_; (case hd => rfl); (case hg => rfl); (case hr => first | (go_simp; done) | (go_simp; rfl)); intro gb123 hg w19 hbox hb; have n0_ := Aside0.mk (blk_below (g := gb118) (o := .cells #[.int .i64 t113, .int .i64 t114] 24 (0, 0)) (by (with_reducible repeat (first | refine blk_drewN ?_ _ | refine blk_drew ?_ | refine blk_alloc ?_ _)); exact BK118.out) hb); have n1_ := Aside0.mk (blk_below (g := gb119) (o := .cells #[.int .i64 t115, .int .i64 t116] 24 (0, 0)) (by (with_reducible repeat (first | refine blk_drewN ?_ _ | refine blk_drew ?_ | refine blk_alloc ?_ _)); exact BK119.out) hb); have n2_ := Aside0.mk (below_step (by repeat (first | (with_reducible first | exact HB.out | apply below_alloc | apply pw_below_drewN | apply below_drew1 | refine below_set ?_ GE118.out | refine below_set ?_ GE119.out) | exact HB.out)) hb); have n3_ := Aside0.mk (hbox); have n4_ := Aside0.mk ((by rw [hg]; exact (below_size (by repeat (first | (with_reducible first | exact HB.out | apply below_alloc | apply pw_below_drewN | apply below_drew1 | refine below_set ?_ GE118.out | refine below_set ?_ GE119.out) | exact HB.out))) : w.heap.size ≤ gb123)); have n5_ := Aside0.mk ((by rw [hg]; exact (below_size (by repeat (first | (with_reducible first | exact HB.out | apply below_alloc | apply pw_below_drewN | apply below_drew1 | refine below_set ?_ GE118.out | refine below_set ?_ GE119.out) | exact HB.out))) : w.heap.size ≤ gb123)); have n6_ := Aside0.mk ((by rw [hg]; exact Nat.ne_of_lt (blk_lt (g := gb118) (o := .cells #[.int .i64 t113, .int .i64 t114] 24 (0, 0)) (by (with_reducible repeat (first | refine blk_drewN ?_ _ | refine blk_drew ?_ | refine blk_alloc ?_ _)); exact BK118.out)) : gb118 ≠ gb123)); have n7_ := Aside0.mk ((by rw [hg]; exact Nat.ne_of_gt (blk_lt (g := gb118) (o := .cells #[.int .i64 t113, .int .i64 t114] 24 (0, 0)) (by (with_reducible repeat (first | refine blk_drewN ?_ _ | refine blk_drew ?_ | refine blk_alloc ?_ _)); exact BK118.out)) : gb123 ≠ gb118)); have n8_ := Aside0.mk ((by rw [hg]; exact Nat.ne_of_lt (blk_lt (g := gb119) (o := .cells #[.int .i64 t115, .int .i64 t116] 24 (0, 0)) (by (with_reducible repeat (first | refine blk_drewN ?_ _ | refine blk_drew ?_ | refine blk_alloc ?_ _)); exact BK119.out)) : gb119 ≠ gb123)); have n9_ := Aside0.mk ((by rw [hg]; exact Nat.ne_of_gt (blk_lt (g := gb119) (o := .cells #[.int .i64 t115, .int .i64 t116] 24 (0, 0)) (by (with_reducible repeat (first | refine blk_drewN ?_ _ | refine blk_drew ?_ | refine blk_alloc ?_ _)); exact BK119.out)) : gb123 ≠ gb119)); clear BK118; clear BK119; clear HB; have BK118 := n0_; have BK119 := n1_; have HB := n2_; have BK123 := n3_; have GW123 := n4_; have GE123 := n5_; have NB118_123 := n6_; have NB123_118 := n7_; have NB119_123 := n8_; have NB123_119 := n9_; clear n0_ n1_ n2_ n3_ n4_ n5_ n6_ n7_ n8_ n9_; clear hb hbox hg; have hnb20 := NB123_118.out; have hnc20 := NB118_123.out; have hnb21 := NB123_119.out; have hnc21 := NB119_123.out; have hcz22_0 : w19.cell? ⟨gb123, 0, none⟩ = some (.int .i64 0) := (blk_cell BK123.out 0).trans rfl; have hcz22_1 : w19.cell? ⟨gb123, 1, none⟩ = some (.int .i64 0) := (blk_cell BK123.out 1).trans rfl; have hfz22_0 := blk_frozen BK123.out 0; have hfz22_1 := blk_frozen BK123.out 1))
  (try simp only [Act.put, List.setIfInBounds_toArray, List.set_cons_zero, List.set_cons_succ])
  go_cut [47] (fun v47 wc => ∃ (kq : Nat) (x47_9 : Bool), v47 = .bool x47_9 ∧ Aside0 (ashlarlaw01_NumOrder.j0 kq t112 x47_9 t113 t114 t115 t116 t120 t121 = some r) ∧ Aside0 (kq ≤ k) ∧ Aside0 (wc.heap[gb118]? = some (.cells #[.int .i64 t113, .int .i64 t114] 24 (0, 0))) ∧ Aside0 (wc.heap[gb119]? = some (.cells #[.int .i64 t115, .int .i64 t116] 24 (0, 0))) ∧ Aside0 (wc.heap[gb123]? = some (.cells #[.int .i64 t120, .int .i64 t121] 24 (0, 0))) ∧ Aside0 (Below w.heap.size w wc))
  case first =>
    have H := HC10.out
    clear HC10
    by_cases c23 : t117 = true
    · subst c23
      have H1 : (ashlarlaw01_NumOrder.j0 k t112 (!t122) t113 t114 t115 t116 t120 t121) = some r := by rw [if_pos rfl] at H; exact H
      clear H
      have H := H1
      clear H1
      have H' := Aside0.mk H
      clear H
      go_wp2
      go_meet
      case rel => exact ⟨_, (!t122), (by first | rfl | (simp; done) | (simp [*]; done)), H', ⟨by first | omega | exact Nat.le_refl _⟩, ⟨by (with_reducible repeat (first | refine blk_drewN ?_ _ | refine blk_drew ?_ | refine blk_alloc ?_ _)); refine blk_far ?_ NB118_123.out _; (with_reducible repeat (first | refine blk_drewN ?_ _ | refine blk_drew ?_ | refine blk_alloc ?_ _)); refine blk_far ?_ NB118_123.out _; (with_reducible repeat (first | refine blk_drewN ?_ _ | refine blk_drew ?_ | refine blk_alloc ?_ _)); exact BK118.out⟩, ⟨by (with_reducible repeat (first | refine blk_drewN ?_ _ | refine blk_drew ?_ | refine blk_alloc ?_ _)); refine blk_far ?_ NB119_123.out _; (with_reducible repeat (first | refine blk_drewN ?_ _ | refine blk_drew ?_ | refine blk_alloc ?_ _)); refine blk_far ?_ NB119_123.out _; (with_reducible repeat (first | refine blk_drewN ?_ _ | refine blk_drew ?_ | refine blk_alloc ?_ _)); exact BK119.out⟩, ⟨by (with_reducible repeat (first | refine blk_drewN ?_ _ | refine blk_drew ?_ | refine blk_alloc ?_ _)); refine blk_put (cs := #[.int .i64 t120, .int .i64 0]) ?_ 1 _ rfl; (with_reducible repeat (first | refine blk_drewN ?_ _ | refine blk_drew ?_ | refine blk_alloc ?_ _)); refine blk_put (cs := #[.int .i64 0, .int .i64 0]) ?_ 0 _ rfl; (with_reducible repeat (first | refine blk_drewN ?_ _ | refine blk_drew ?_ | refine blk_alloc ?_ _)); exact BK123.out⟩, ⟨by repeat (first | (with_reducible first | exact HB.out | apply below_alloc | apply pw_below_drewN | apply below_drew1 | refine below_set ?_ GE118.out | refine below_set ?_ GE119.out | refine below_set ?_ GE123.out) | exact HB.out)⟩⟩
    · replace c23 := Bool.eq_false_iff.mpr c23
      subst c23
      have H1 : (ashlarlaw01_NumOrder.j0 k t112 true t113 t114 t115 t116 t120 t121) = some r := by rw [if_neg (show ¬ (false = true) by decide)] at H; exact H
      clear H
      have H := H1
      clear H1
      have H' := Aside0.mk H
      clear H
      go_wp2
      go_meet
      case rel => exact ⟨_, (true), (by first | rfl | (simp; done) | (simp [*]; done)), H', ⟨by first | omega | exact Nat.le_refl _⟩, ⟨by (with_reducible repeat (first | refine blk_drewN ?_ _ | refine blk_drew ?_ | refine blk_alloc ?_ _)); refine blk_far ?_ NB118_123.out _; (with_reducible repeat (first | refine blk_drewN ?_ _ | refine blk_drew ?_ | refine blk_alloc ?_ _)); refine blk_far ?_ NB118_123.out _; (with_reducible repeat (first | refine blk_drewN ?_ _ | refine blk_drew ?_ | refine blk_alloc ?_ _)); exact BK118.out⟩, ⟨by (with_reducible repeat (first | refine blk_drewN ?_ _ | refine blk_drew ?_ | refine blk_alloc ?_ _)); refine blk_far ?_ NB119_123.out _; (with_reducible repeat (first | refine blk_drewN ?_ _ | refine blk_drew ?_ | refine blk_alloc ?_ _)); refine blk_far ?_ NB119_123.out _; (with_reducible repeat (first | refine blk_drewN ?_ _ | refine blk_drew ?_ | refine blk_alloc ?_ _)); exact BK119.out⟩, ⟨by (with_reducible repeat (first | refine blk_drewN ?_ _ | refine blk_drew ?_ | refine blk_alloc ?_ _)); refine blk_put (cs := #[.int .i64 t120, .int .i64 0]) ?_ 1 _ rfl; (with_reducible repeat (first | refine blk_drewN ?_ _ | refine blk_drew ?_ | refine blk_alloc ?_ _)); refine blk_put (cs := #[.int .i64 0, .int .i64 0]) ?_ 0 _ rfl; (with_reducible repeat (first | refine blk_drewN ?_ _ | refine blk_drew ?_ | refine blk_alloc ?_ _)); exact BK123.out⟩, ⟨by repeat (first | (with_reducible first | exact HB.out | apply below_alloc | apply pw_below_drewN | apply below_drew1 | refine below_set ?_ GE118.out | refine below_set ?_ GE119.out | refine below_set ?_ GE123.out) | exact HB.out)⟩⟩
  case rest =>
    clear HC10
    try clear c1
    try clear c2
    try clear p2
    try clear c5
    try clear c14
    try clear c15
    try clear c20
    try clear c21
    try clear c22
    try clear c23
    try clear hcz16_0
    try clear hcz16_1
    try clear hcz17_0
    try clear hcz17_1
    try clear hcz22_0
    try clear hcz22_1
    try clear hfz16_0
    try clear hfz16_1
    try clear hfz17_0
    try clear hfz17_1
    try clear hfz22_0
    try clear hfz22_1
    obtain ⟨kq, x47_9, rfl, HA, HJ9, BK118, BK119, BK123, HB⟩ := hcut
    cases kq with
    | zero => exact absurd HA.out (by simp [ashlarlaw01_NumOrder.j0])
    | succ kj9 =>
      have H := HA.out
      clear HA
      simp only [ashlarlaw01_NumOrder.j0] at H
      by_cases c24 : x47_9 = true
      · subst c24
        have H1 : (some t112) = some r := by rw [if_pos rfl] at H; exact H
        clear H
        have H := H1
        clear H1
        obtain rfl := Option.some.inj H
        go_wp2
        go_ret
        exact ⟨by first | rfl | (simp [errW_none, errW_some] <;> rfl) | (simp [*, errW_none, errW_some] <;> rfl), by repeat (first | (with_reducible first | exact HB.out | apply below_alloc | apply pw_below_drewN | apply below_drew1 | refine below_set ?_ GE118.out | refine below_set ?_ GE119.out | refine below_set ?_ GE123.out) | exact HB.out)⟩
      · replace c24 := Bool.eq_false_iff.mpr c24
        subst c24
        have H1 : ((num_Rat_Cmp.f t113 t114 t115 t116).bind fun t124 => ((num_Rat_Cmp.f t115 t116 t113 t114).bind fun t125 => (if t124 = (wrap64 (-t125)) then (if ((t124 == 0) != (t113 == t115 && (t114 == t116))) = true then (ashlarlaw01_NumOrder.j1 kj9 t112 t124 true t113 t114 t115 t116 t120 t121) else (if t124 ≤ 0 then ((num_Rat_Cmp.f t115 t116 t120 t121).bind fun t126 => (if t126 ≤ 0 then ((num_Rat_Cmp.f t113 t114 t120 t121).bind fun t127 => (ashlarlaw01_NumOrder.j1 kj9 t112 t124 (decide (t127 > 0)) t113 t114 t115 t116 t120 t121)) else (ashlarlaw01_NumOrder.j1 kj9 t112 t124 false t113 t114 t115 t116 t120 t121))) else (ashlarlaw01_NumOrder.j1 kj9 t112 t124 false t113 t114 t115 t116 t120 t121))) else (ashlarlaw01_NumOrder.j1 kj9 t112 t124 true t113 t114 t115 t116 t120 t121)))) = some r := by rw [if_neg (show ¬ (false = true) by decide)] at H; exact H
        clear H
        have H := H1
        clear H1
        replace H := Option.bind_eq_some_iff.mp H
        obtain ⟨t124, A250, H⟩ := H
        replace H : ((num_Rat_Cmp.f t115 t116 t113 t114).bind fun t125 => (if t124 = (wrap64 (-t125)) then (if ((t124 == 0) != (t113 == t115 && (t114 == t116))) = true then (ashlarlaw01_NumOrder.j1 kj9 t112 t124 true t113 t114 t115 t116 t120 t121) else (if t124 ≤ 0 then ((num_Rat_Cmp.f t115 t116 t120 t121).bind fun t126 => (if t126 ≤ 0 then ((num_Rat_Cmp.f t113 t114 t120 t121).bind fun t127 => (ashlarlaw01_NumOrder.j1 kj9 t112 t124 (decide (t127 > 0)) t113 t114 t115 t116 t120 t121)) else (ashlarlaw01_NumOrder.j1 kj9 t112 t124 false t113 t114 t115 t116 t120 t121))) else (ashlarlaw01_NumOrder.j1 kj9 t112 t124 false t113 t114 t115 t116 t120 t121))) else (ashlarlaw01_NumOrder.j1 kj9 t112 t124 true t113 t114 t115 t116 t120 t121))) = some r := H
        have A25 := Aside0.mk A250
        clear A250
        have HC26 := Aside0.mk H
        clear H
        have hnb27 := NB118_119.out
        have hnc27 := NB119_118.out
        have hnb28 := NB118_123.out
        have hnc28 := NB123_118.out
        have hcz29_0 : wc.cell? ⟨gb118, 0, none⟩ = some (.int .i64 t113) := (blk_cell BK118.out 0).trans rfl
        have hcz29_1 : wc.cell? ⟨gb118, 1, none⟩ = some (.int .i64 t114) := (blk_cell BK118.out 1).trans rfl
        have hfz29_0 := blk_frozen BK118.out 0
        have hfz29_1 := blk_frozen BK118.out 1
        have hnb30 := NB119_123.out
        have hnc30 := NB123_119.out
        have hcz31_0 : wc.cell? ⟨gb119, 0, none⟩ = some (.int .i64 t115) := (blk_cell BK119.out 0).trans rfl
        have hcz31_1 : wc.cell? ⟨gb119, 1, none⟩ = some (.int .i64 t116) := (blk_cell BK119.out 1).trans rfl
        have hfz31_0 := blk_frozen BK119.out 0
        have hfz31_1 := blk_frozen BK119.out 1
        go_upto_region 7 with (first | ((with_reducible refine gate_callee (f := 21) rfl ?_); refine goesL_ (some 51) rfl rfl Try.func21 (by kernel_rfl) rfl #[.agg #[.int .i64 t113, .int .i64 t114], .agg #[.int .i64 t115, .int .i64 t116]] rfl (by (try simp only [List.map_toArray, List.map_cons, List.map_nil]); first | done | rfl | (simp only [List.length_drop, List.length_take]; rfl)) ?_; (with_reducible refine (num_Rat_Cmp.calls t113 t114 t115 t116 t124 _ A25.out).mono ?_); rintro e w32 ⟨rfl, hb⟩; refine ⟨_, rfl, ?_⟩; have n0_ := Aside0.mk (blk_below (g := gb118) (o := .cells #[.int .i64 t113, .int .i64 t114] 24 (0, 0)) (by (with_reducible repeat (first | refine blk_drewN ?_ _ | refine blk_drew ?_ | refine blk_alloc ?_ _)); exact BK118.out) hb); have n1_ := Aside0.mk (blk_below (g := gb119) (o := .cells #[.int .i64 t115, .int .i64 t116] 24 (0, 0)) (by (with_reducible repeat (first | refine blk_drewN ?_ _ | refine blk_drew ?_ | refine blk_alloc ?_ _)); exact BK119.out) hb); have n2_ := Aside0.mk (blk_below (g := gb123) (o := .cells #[.int .i64 t120, .int .i64 t121] 24 (0, 0)) (by (with_reducible repeat (first | refine blk_drewN ?_ _ | refine blk_drew ?_ | refine blk_alloc ?_ _)); exact BK123.out) hb); have n3_ := Aside0.mk (below_step (by repeat (first | (with_reducible first | exact HB.out | apply below_alloc | apply pw_below_drewN | apply below_drew1 | refine below_set ?_ GE118.out | refine below_set ?_ GE119.out | refine below_set ?_ GE123.out) | exact HB.out)) hb); clear BK118; clear BK119; clear BK123; clear HB; have BK118 := n0_; have BK119 := n1_; have BK123 := n2_; have HB := n3_; clear n0_ n1_ n2_ n3_; (try clear hb); (try clear hb2); (try clear hk); (try clear hi)))
        (try simp only [Act.put, List.setIfInBounds_toArray, List.set_cons_zero, List.set_cons_succ])
        go_cut [81] (fun v81 wc => ∃ (kq : Nat) (x81_25 : Bool), v81 = .bool x81_25 ∧ Aside0 (ashlarlaw01_NumOrder.j1 kq t112 t124 x81_25 t113 t114 t115 t116 t120 t121 = some r) ∧ Aside0 (kq ≤ kj9) ∧ Aside0 (wc.heap[gb118]? = some (.cells #[.int .i64 t113, .int .i64 t114] 24 (0, 0))) ∧ Aside0 (wc.heap[gb119]? = some (.cells #[.int .i64 t115, .int .i64 t116] 24 (0, 0))) ∧ Aside0 (wc.heap[gb123]? = some (.cells #[.int .i64 t120, .int .i64 t121] 24 (0, 0))) ∧ Aside0 (Below w.heap.size w wc))
        case first =>
          have H := HC26.out
          clear HC26
          replace H := Option.bind_eq_some_iff.mp H
          obtain ⟨t125, A330, H⟩ := H
          replace H : (if t124 = (wrap64 (-t125)) then (if ((t124 == 0) != (t113 == t115 && (t114 == t116))) = true then (ashlarlaw01_NumOrder.j1 kj9 t112 t124 true t113 t114 t115 t116 t120 t121) else (if t124 ≤ 0 then ((num_Rat_Cmp.f t115 t116 t120 t121).bind fun t126 => (if t126 ≤ 0 then ((num_Rat_Cmp.f t113 t114 t120 t121).bind fun t127 => (ashlarlaw01_NumOrder.j1 kj9 t112 t124 (decide (t127 > 0)) t113 t114 t115 t116 t120 t121)) else (ashlarlaw01_NumOrder.j1 kj9 t112 t124 false t113 t114 t115 t116 t120 t121))) else (ashlarlaw01_NumOrder.j1 kj9 t112 t124 false t113 t114 t115 t116 t120 t121))) else (ashlarlaw01_NumOrder.j1 kj9 t112 t124 true t113 t114 t115 t116 t120 t121)) = some r := H
          have A33 := Aside0.mk A330
          clear A330
          by_cases c34 : t124 = (wrap64 (-t125))
          · rw [if_pos c34] at H
            have c34b0 : (t124 == (wrap64 (-t125))) = true := beq_iff_eq.mpr c34
            have c34b1 : (t124 != (wrap64 (-t125))) = false := bne_eq_false_iff_eq.mpr c34
            clear c34
            (first | rw [c34b0] | (simp only [i64_w, i32_w]; rw [c34b0]) | skip)
            by_cases c35 : ((t124 == 0) != (t113 == t115 && (t114 == t116))) = true
            · rw [if_pos c35] at H
              have c35b0 : ((t124 == 0) != (t113 == t115 && (t114 == t116))) = true := c35
              (try (have c35b1 : decide ((t124 == 0) = (t113 == t115 && (t114 == t116))) = false := by simpa using c35))
              (try (have c35b2 : ((t124 == 0) == (t113 == t115 && (t114 == t116))) = false := by simpa using c35))
              (try (have c35b3 : ¬ ((t124 == 0) = (t113 == t115 && (t114 == t116))) := by simpa using c35))
              clear c35
              have H' := Aside0.mk H
              clear H
              have hnb36 := NB119_118.out
              have hnc36 := NB118_119.out
              have hnb37 := NB119_123.out
              have hnc37 := NB123_119.out
              have hcz38_0 : w32.cell? ⟨gb119, 0, none⟩ = some (.int .i64 t115) := (blk_cell BK119.out 0).trans rfl
              have hcz38_1 : w32.cell? ⟨gb119, 1, none⟩ = some (.int .i64 t116) := (blk_cell BK119.out 1).trans rfl
              have hfz38_0 := blk_frozen BK119.out 0
              have hfz38_1 := blk_frozen BK119.out 1
              have hnb39 := NB118_123.out
              have hnc39 := NB123_118.out
              have hcz40_0 : w32.cell? ⟨gb118, 0, none⟩ = some (.int .i64 t113) := (blk_cell BK118.out 0).trans rfl
              have hcz40_1 : w32.cell? ⟨gb118, 1, none⟩ = some (.int .i64 t114) := (blk_cell BK118.out 1).trans rfl
              have hfz40_0 := blk_frozen BK118.out 0
              have hfz40_1 := blk_frozen BK118.out 1
              go_wp2_with (first | ((with_reducible refine gate_callee (f := 21) rfl ?_); refine goesL_ (some 55) rfl rfl Try.func21 (by kernel_rfl) rfl #[.agg #[.int .i64 t115, .int .i64 t116], .agg #[.int .i64 t113, .int .i64 t114]] rfl (by (try simp only [List.map_toArray, List.map_cons, List.map_nil]); first | done | rfl | (simp only [List.length_drop, List.length_take]; rfl)) ?_; (with_reducible refine (num_Rat_Cmp.calls t115 t116 t113 t114 t125 _ A33.out).mono ?_); rintro e w41 ⟨rfl, hb⟩; refine ⟨_, rfl, ?_⟩; have n0_ := Aside0.mk (blk_below (g := gb118) (o := .cells #[.int .i64 t113, .int .i64 t114] 24 (0, 0)) (by (with_reducible repeat (first | refine blk_drewN ?_ _ | refine blk_drew ?_ | refine blk_alloc ?_ _)); exact BK118.out) hb); have n1_ := Aside0.mk (blk_below (g := gb119) (o := .cells #[.int .i64 t115, .int .i64 t116] 24 (0, 0)) (by (with_reducible repeat (first | refine blk_drewN ?_ _ | refine blk_drew ?_ | refine blk_alloc ?_ _)); exact BK119.out) hb); have n2_ := Aside0.mk (blk_below (g := gb123) (o := .cells #[.int .i64 t120, .int .i64 t121] 24 (0, 0)) (by (with_reducible repeat (first | refine blk_drewN ?_ _ | refine blk_drew ?_ | refine blk_alloc ?_ _)); exact BK123.out) hb); have n3_ := Aside0.mk (below_step (by repeat (first | (with_reducible first | exact HB.out | apply below_alloc | apply pw_below_drewN | apply below_drew1 | refine below_set ?_ GE118.out | refine below_set ?_ GE119.out | refine below_set ?_ GE123.out) | exact HB.out)) hb); clear BK118; clear BK119; clear BK123; clear HB; have BK118 := n0_; have BK119 := n1_; have BK123 := n2_; have HB := n3_; clear n0_ n1_ n2_ n3_; (try clear hb); (try clear hb2); (try clear hk); (try clear hi); have hcz42_0 : w41.cell? ⟨gb118, 0, none⟩ = some (.int .i64 t113) := (blk_cell BK118.out 0).trans rfl; have hcz42_1 : w41.cell? ⟨gb118, 1, none⟩ = some (.int .i64 t114) := (blk_cell BK118.out 1).trans rfl; have hfz42_0 := blk_frozen BK118.out 0; have hfz42_1 := blk_frozen BK118.out 1; have hcz43_0 : w41.cell? ⟨gb119, 0, none⟩ = some (.int .i64 t115) := (blk_cell BK119.out 0).trans rfl; have hcz43_1 : w41.cell? ⟨gb119, 1, none⟩ = some (.int .i64 t116) := (blk_cell BK119.out 1).trans rfl; have hfz43_0 := blk_frozen BK119.out 0; have hfz43_1 := blk_frozen BK119.out 1))
              go_meet
              case rel => exact ⟨_, (true), (by first | rfl | (simp; done) | (simp [*]; done)), H', ⟨by have := HJ9.out; first | omega | exact Nat.le_refl _⟩, ⟨by (with_reducible repeat (first | refine blk_drewN ?_ _ | refine blk_drew ?_ | refine blk_alloc ?_ _)); exact BK118.out⟩, ⟨by (with_reducible repeat (first | refine blk_drewN ?_ _ | refine blk_drew ?_ | refine blk_alloc ?_ _)); exact BK119.out⟩, ⟨by (with_reducible repeat (first | refine blk_drewN ?_ _ | refine blk_drew ?_ | refine blk_alloc ?_ _)); exact BK123.out⟩, ⟨by repeat (first | (with_reducible first | exact HB.out | apply below_alloc | apply pw_below_drewN | apply below_drew1 | refine below_set ?_ GE118.out | refine below_set ?_ GE119.out | refine below_set ?_ GE123.out) | exact HB.out)⟩⟩
            · rw [if_neg c35] at H
              have c35b0 : ((t124 == 0) != (t113 == t115 && (t114 == t116))) = false := by simpa using c35
              (try (have c35b1 : decide ((t124 == 0) = (t113 == t115 && (t114 == t116))) = true := by simpa using c35))
              (try (have c35b2 : ((t124 == 0) == (t113 == t115 && (t114 == t116))) = true := by simpa using c35))
              clear c35
              by_cases c44 : t124 ≤ 0
              · rw [if_pos c44] at H
                have c44b0 : decide (t124 ≤ 0) = true := decide_eq_true c44
                clear c44
                replace H := Option.bind_eq_some_iff.mp H
                obtain ⟨t126, A450, H⟩ := H
                replace H : (if t126 ≤ 0 then ((num_Rat_Cmp.f t113 t114 t120 t121).bind fun t127 => (ashlarlaw01_NumOrder.j1 kj9 t112 t124 (decide (t127 > 0)) t113 t114 t115 t116 t120 t121)) else (ashlarlaw01_NumOrder.j1 kj9 t112 t124 false t113 t114 t115 t116 t120 t121)) = some r := H
                have A45 := Aside0.mk A450
                clear A450
                by_cases c46 : t126 ≤ 0
                · rw [if_pos c46] at H
                  have c46b0 : decide (t126 ≤ 0) = true := decide_eq_true c46
                  clear c46
                  replace H := Option.bind_eq_some_iff.mp H
                  obtain ⟨t127, A470, H⟩ := H
                  replace H : (ashlarlaw01_NumOrder.j1 kj9 t112 t124 (decide (t127 > 0)) t113 t114 t115 t116 t120 t121) = some r := H
                  have A47 := Aside0.mk A470
                  clear A470
                  have H' := Aside0.mk H
                  clear H
                  have hnb48 := NB119_118.out
                  have hnc48 := NB118_119.out
                  have hnb49 := NB119_123.out
                  have hnc49 := NB123_119.out
                  have hcz50_0 : w32.cell? ⟨gb119, 0, none⟩ = some (.int .i64 t115) := (blk_cell BK119.out 0).trans rfl
                  have hcz50_1 : w32.cell? ⟨gb119, 1, none⟩ = some (.int .i64 t116) := (blk_cell BK119.out 1).trans rfl
                  have hfz50_0 := blk_frozen BK119.out 0
                  have hfz50_1 := blk_frozen BK119.out 1
                  have hnb51 := NB118_123.out
                  have hnc51 := NB123_118.out
                  have hcz52_0 : w32.cell? ⟨gb118, 0, none⟩ = some (.int .i64 t113) := (blk_cell BK118.out 0).trans rfl
                  have hcz52_1 : w32.cell? ⟨gb118, 1, none⟩ = some (.int .i64 t114) := (blk_cell BK118.out 1).trans rfl
                  have hfz52_0 := blk_frozen BK118.out 0
                  have hfz52_1 := blk_frozen BK118.out 1
                  go_wp2_with (first | ((with_reducible refine gate_callee (f := 21) rfl ?_); refine goesL_ (some 55) rfl rfl Try.func21 (by kernel_rfl) rfl #[.agg #[.int .i64 t115, .int .i64 t116], .agg #[.int .i64 t113, .int .i64 t114]] rfl (by (try simp only [List.map_toArray, List.map_cons, List.map_nil]); first | done | rfl | (simp only [List.length_drop, List.length_take]; rfl)) ?_; (with_reducible refine (num_Rat_Cmp.calls t115 t116 t113 t114 t125 _ A33.out).mono ?_); rintro e w53 ⟨rfl, hb⟩; refine ⟨_, rfl, ?_⟩; have n0_ := Aside0.mk (blk_below (g := gb118) (o := .cells #[.int .i64 t113, .int .i64 t114] 24 (0, 0)) (by (with_reducible repeat (first | refine blk_drewN ?_ _ | refine blk_drew ?_ | refine blk_alloc ?_ _)); exact BK118.out) hb); have n1_ := Aside0.mk (blk_below (g := gb119) (o := .cells #[.int .i64 t115, .int .i64 t116] 24 (0, 0)) (by (with_reducible repeat (first | refine blk_drewN ?_ _ | refine blk_drew ?_ | refine blk_alloc ?_ _)); exact BK119.out) hb); have n2_ := Aside0.mk (blk_below (g := gb123) (o := .cells #[.int .i64 t120, .int .i64 t121] 24 (0, 0)) (by (with_reducible repeat (first | refine blk_drewN ?_ _ | refine blk_drew ?_ | refine blk_alloc ?_ _)); exact BK123.out) hb); have n3_ := Aside0.mk (below_step (by repeat (first | (with_reducible first | exact HB.out | apply below_alloc | apply pw_below_drewN | apply below_drew1 | refine below_set ?_ GE118.out | refine below_set ?_ GE119.out | refine below_set ?_ GE123.out) | exact HB.out)) hb); clear BK118; clear BK119; clear BK123; clear HB; have BK118 := n0_; have BK119 := n1_; have BK123 := n2_; have HB := n3_; clear n0_ n1_ n2_ n3_; (try clear hb); (try clear hb2); (try clear hk); (try clear hi); have hcz54_0 : w53.cell? ⟨gb118, 0, none⟩ = some (.int .i64 t113) := (blk_cell BK118.out 0).trans rfl; have hcz54_1 : w53.cell? ⟨gb118, 1, none⟩ = some (.int .i64 t114) := (blk_cell BK118.out 1).trans rfl; have hfz54_0 := blk_frozen BK118.out 0; have hfz54_1 := blk_frozen BK118.out 1; have hcz55_0 : w53.cell? ⟨gb119, 0, none⟩ = some (.int .i64 t115) := (blk_cell BK119.out 0).trans rfl; have hcz55_1 : w53.cell? ⟨gb119, 1, none⟩ = some (.int .i64 t116) := (blk_cell BK119.out 1).trans rfl; have hfz55_0 := blk_frozen BK119.out 0; have hfz55_1 := blk_frozen BK119.out 1; have hcz56_0 : w53.cell? ⟨gb123, 0, none⟩ = some (.int .i64 t120) := (blk_cell BK123.out 0).trans rfl; have hcz56_1 : w53.cell? ⟨gb123, 1, none⟩ = some (.int .i64 t121) := (blk_cell BK123.out 1).trans rfl; have hfz56_0 := blk_frozen BK123.out 0; have hfz56_1 := blk_frozen BK123.out 1) | (go_at_call 21; (with_reducible refine (num_Rat_Cmp.calls t115 t116 t120 t121 t126 _ A45.out).mono ?_); rintro e w57 ⟨rfl, hb⟩; have n0_ := Aside0.mk (blk_below (g := gb118) (o := .cells #[.int .i64 t113, .int .i64 t114] 24 (0, 0)) (by (with_reducible repeat (first | refine blk_drewN ?_ _ | refine blk_drew ?_ | refine blk_alloc ?_ _)); exact BK118.out) hb); have n1_ := Aside0.mk (blk_below (g := gb119) (o := .cells #[.int .i64 t115, .int .i64 t116] 24 (0, 0)) (by (with_reducible repeat (first | refine blk_drewN ?_ _ | refine blk_drew ?_ | refine blk_alloc ?_ _)); exact BK119.out) hb); have n2_ := Aside0.mk (blk_below (g := gb123) (o := .cells #[.int .i64 t120, .int .i64 t121] 24 (0, 0)) (by (with_reducible repeat (first | refine blk_drewN ?_ _ | refine blk_drew ?_ | refine blk_alloc ?_ _)); exact BK123.out) hb); have n3_ := Aside0.mk (below_step (by repeat (first | (with_reducible first | exact HB.out | apply below_alloc | apply pw_below_drewN | apply below_drew1 | refine below_set ?_ GE118.out | refine below_set ?_ GE119.out | refine below_set ?_ GE123.out) | exact HB.out)) hb); clear BK118; clear BK119; clear BK123; clear HB; have BK118 := n0_; have BK119 := n1_; have BK123 := n2_; have HB := n3_; clear n0_ n1_ n2_ n3_; (try clear hb); (try clear hb2); (try clear hk); (try clear hi); have hcz58_0 : w57.cell? ⟨gb118, 0, none⟩ = some (.int .i64 t113) := (blk_cell BK118.out 0).trans rfl; have hcz58_1 : w57.cell? ⟨gb118, 1, none⟩ = some (.int .i64 t114) := (blk_cell BK118.out 1).trans rfl; have hfz58_0 := blk_frozen BK118.out 0; have hfz58_1 := blk_frozen BK118.out 1; have hcz59_0 : w57.cell? ⟨gb123, 0, none⟩ = some (.int .i64 t120) := (blk_cell BK123.out 0).trans rfl; have hcz59_1 : w57.cell? ⟨gb123, 1, none⟩ = some (.int .i64 t121) := (blk_cell BK123.out 1).trans rfl; have hfz59_0 := blk_frozen BK123.out 0; have hfz59_1 := blk_frozen BK123.out 1) | (go_at_call 21; (with_reducible refine (num_Rat_Cmp.calls t113 t114 t120 t121 t127 _ A47.out).mono ?_); rintro e w60 ⟨rfl, hb⟩; have n0_ := Aside0.mk (blk_below (g := gb118) (o := .cells #[.int .i64 t113, .int .i64 t114] 24 (0, 0)) (by (with_reducible repeat (first | refine blk_drewN ?_ _ | refine blk_drew ?_ | refine blk_alloc ?_ _)); exact BK118.out) hb); have n1_ := Aside0.mk (blk_below (g := gb119) (o := .cells #[.int .i64 t115, .int .i64 t116] 24 (0, 0)) (by (with_reducible repeat (first | refine blk_drewN ?_ _ | refine blk_drew ?_ | refine blk_alloc ?_ _)); exact BK119.out) hb); have n2_ := Aside0.mk (blk_below (g := gb123) (o := .cells #[.int .i64 t120, .int .i64 t121] 24 (0, 0)) (by (with_reducible repeat (first | refine blk_drewN ?_ _ | refine blk_drew ?_ | refine blk_alloc ?_ _)); exact BK123.out) hb); have n3_ := Aside0.mk (below_step (by repeat (first | (with_reducible first | exact HB.out | apply below_alloc | apply pw_below_drewN | apply below_drew1 | refine below_set ?_ GE118.out | refine below_set ?_ GE119.out | refine below_set ?_ GE123.out) | exact HB.out)) hb); clear BK118; clear BK119; clear BK123; clear HB; have BK118 := n0_; have BK119 := n1_; have BK123 := n2_; have HB := n3_; clear n0_ n1_ n2_ n3_; (try clear hb); (try clear hb2); (try clear hk); (try clear hi)))
                  go_meet
                  case rel => exact ⟨_, (decide (t127 > 0)), (by first | rfl | (simp; done) | (simp [*]; done)), H', ⟨by have := HJ9.out; first | omega | exact Nat.le_refl _⟩, ⟨by (with_reducible repeat (first | refine blk_drewN ?_ _ | refine blk_drew ?_ | refine blk_alloc ?_ _)); exact BK118.out⟩, ⟨by (with_reducible repeat (first | refine blk_drewN ?_ _ | refine blk_drew ?_ | refine blk_alloc ?_ _)); exact BK119.out⟩, ⟨by (with_reducible repeat (first | refine blk_drewN ?_ _ | refine blk_drew ?_ | refine blk_alloc ?_ _)); exact BK123.out⟩, ⟨by repeat (first | (with_reducible first | exact HB.out | apply below_alloc | apply pw_below_drewN | apply below_drew1 | refine below_set ?_ GE118.out | refine below_set ?_ GE119.out | refine below_set ?_ GE123.out) | exact HB.out)⟩⟩
                · rw [if_neg c46] at H
                  have c46b0 : decide (t126 ≤ 0) = false := decide_eq_false c46
                  clear c46
                  have H' := Aside0.mk H
                  clear H
                  have hnb61 := NB119_118.out
                  have hnc61 := NB118_119.out
                  have hnb62 := NB119_123.out
                  have hnc62 := NB123_119.out
                  have hcz63_0 : w32.cell? ⟨gb119, 0, none⟩ = some (.int .i64 t115) := (blk_cell BK119.out 0).trans rfl
                  have hcz63_1 : w32.cell? ⟨gb119, 1, none⟩ = some (.int .i64 t116) := (blk_cell BK119.out 1).trans rfl
                  have hfz63_0 := blk_frozen BK119.out 0
                  have hfz63_1 := blk_frozen BK119.out 1
                  have hnb64 := NB118_123.out
                  have hnc64 := NB123_118.out
                  have hcz65_0 : w32.cell? ⟨gb118, 0, none⟩ = some (.int .i64 t113) := (blk_cell BK118.out 0).trans rfl
                  have hcz65_1 : w32.cell? ⟨gb118, 1, none⟩ = some (.int .i64 t114) := (blk_cell BK118.out 1).trans rfl
                  have hfz65_0 := blk_frozen BK118.out 0
                  have hfz65_1 := blk_frozen BK118.out 1
                  go_wp2_with (first | ((with_reducible refine gate_callee (f := 21) rfl ?_); refine goesL_ (some 55) rfl rfl Try.func21 (by kernel_rfl) rfl #[.agg #[.int .i64 t115, .int .i64 t116], .agg #[.int .i64 t113, .int .i64 t114]] rfl (by (try simp only [List.map_toArray, List.map_cons, List.map_nil]); first | done | rfl | (simp only [List.length_drop, List.length_take]; rfl)) ?_; (with_reducible refine (num_Rat_Cmp.calls t115 t116 t113 t114 t125 _ A33.out).mono ?_); rintro e w66 ⟨rfl, hb⟩; refine ⟨_, rfl, ?_⟩; have n0_ := Aside0.mk (blk_below (g := gb118) (o := .cells #[.int .i64 t113, .int .i64 t114] 24 (0, 0)) (by (with_reducible repeat (first | refine blk_drewN ?_ _ | refine blk_drew ?_ | refine blk_alloc ?_ _)); exact BK118.out) hb); have n1_ := Aside0.mk (blk_below (g := gb119) (o := .cells #[.int .i64 t115, .int .i64 t116] 24 (0, 0)) (by (with_reducible repeat (first | refine blk_drewN ?_ _ | refine blk_drew ?_ | refine blk_alloc ?_ _)); exact BK119.out) hb); have n2_ := Aside0.mk (blk_below (g := gb123) (o := .cells #[.int .i64 t120, .int .i64 t121] 24 (0, 0)) (by (with_reducible repeat (first | refine blk_drewN ?_ _ | refine blk_drew ?_ | refine blk_alloc ?_ _)); exact BK123.out) hb); have n3_ := Aside0.mk (below_step (by repeat (first | (with_reducible first | exact HB.out | apply below_alloc | apply pw_below_drewN | apply below_drew1 | refine below_set ?_ GE118.out | refine below_set ?_ GE119.out | refine below_set ?_ GE123.out) | exact HB.out)) hb); clear BK118; clear BK119; clear BK123; clear HB; have BK118 := n0_; have BK119 := n1_; have BK123 := n2_; have HB := n3_; clear n0_ n1_ n2_ n3_; (try clear hb); (try clear hb2); (try clear hk); (try clear hi); have hcz67_0 : w66.cell? ⟨gb118, 0, none⟩ = some (.int .i64 t113) := (blk_cell BK118.out 0).trans rfl; have hcz67_1 : w66.cell? ⟨gb118, 1, none⟩ = some (.int .i64 t114) := (blk_cell BK118.out 1).trans rfl; have hfz67_0 := blk_frozen BK118.out 0; have hfz67_1 := blk_frozen BK118.out 1; have hcz68_0 : w66.cell? ⟨gb119, 0, none⟩ = some (.int .i64 t115) := (blk_cell BK119.out 0).trans rfl; have hcz68_1 : w66.cell? ⟨gb119, 1, none⟩ = some (.int .i64 t116) := (blk_cell BK119.out 1).trans rfl; have hfz68_0 := blk_frozen BK119.out 0; have hfz68_1 := blk_frozen BK119.out 1; have hcz69_0 : w66.cell? ⟨gb123, 0, none⟩ = some (.int .i64 t120) := (blk_cell BK123.out 0).trans rfl; have hcz69_1 : w66.cell? ⟨gb123, 1, none⟩ = some (.int .i64 t121) := (blk_cell BK123.out 1).trans rfl; have hfz69_0 := blk_frozen BK123.out 0; have hfz69_1 := blk_frozen BK123.out 1) | (go_at_call 21; (with_reducible refine (num_Rat_Cmp.calls t115 t116 t120 t121 t126 _ A45.out).mono ?_); rintro e w70 ⟨rfl, hb⟩; have n0_ := Aside0.mk (blk_below (g := gb118) (o := .cells #[.int .i64 t113, .int .i64 t114] 24 (0, 0)) (by (with_reducible repeat (first | refine blk_drewN ?_ _ | refine blk_drew ?_ | refine blk_alloc ?_ _)); exact BK118.out) hb); have n1_ := Aside0.mk (blk_below (g := gb119) (o := .cells #[.int .i64 t115, .int .i64 t116] 24 (0, 0)) (by (with_reducible repeat (first | refine blk_drewN ?_ _ | refine blk_drew ?_ | refine blk_alloc ?_ _)); exact BK119.out) hb); have n2_ := Aside0.mk (blk_below (g := gb123) (o := .cells #[.int .i64 t120, .int .i64 t121] 24 (0, 0)) (by (with_reducible repeat (first | refine blk_drewN ?_ _ | refine blk_drew ?_ | refine blk_alloc ?_ _)); exact BK123.out) hb); have n3_ := Aside0.mk (below_step (by repeat (first | (with_reducible first | exact HB.out | apply below_alloc | apply pw_below_drewN | apply below_drew1 | refine below_set ?_ GE118.out | refine below_set ?_ GE119.out | refine below_set ?_ GE123.out) | exact HB.out)) hb); clear BK118; clear BK119; clear BK123; clear HB; have BK118 := n0_; have BK119 := n1_; have BK123 := n2_; have HB := n3_; clear n0_ n1_ n2_ n3_; (try clear hb); (try clear hb2); (try clear hk); (try clear hi)))
                  go_meet
                  case rel => exact ⟨_, (false), (by first | rfl | (simp; done) | (simp [*]; done)), H', ⟨by have := HJ9.out; first | omega | exact Nat.le_refl _⟩, ⟨by (with_reducible repeat (first | refine blk_drewN ?_ _ | refine blk_drew ?_ | refine blk_alloc ?_ _)); exact BK118.out⟩, ⟨by (with_reducible repeat (first | refine blk_drewN ?_ _ | refine blk_drew ?_ | refine blk_alloc ?_ _)); exact BK119.out⟩, ⟨by (with_reducible repeat (first | refine blk_drewN ?_ _ | refine blk_drew ?_ | refine blk_alloc ?_ _)); exact BK123.out⟩, ⟨by repeat (first | (with_reducible first | exact HB.out | apply below_alloc | apply pw_below_drewN | apply below_drew1 | refine below_set ?_ GE118.out | refine below_set ?_ GE119.out | refine below_set ?_ GE123.out) | exact HB.out)⟩⟩
              · rw [if_neg c44] at H
                have c44b0 : decide (t124 ≤ 0) = false := decide_eq_false c44
                clear c44
                have H' := Aside0.mk H
                clear H
                have hnb71 := NB119_118.out
                have hnc71 := NB118_119.out
                have hnb72 := NB119_123.out
                have hnc72 := NB123_119.out
                have hcz73_0 : w32.cell? ⟨gb119, 0, none⟩ = some (.int .i64 t115) := (blk_cell BK119.out 0).trans rfl
                have hcz73_1 : w32.cell? ⟨gb119, 1, none⟩ = some (.int .i64 t116) := (blk_cell BK119.out 1).trans rfl
                have hfz73_0 := blk_frozen BK119.out 0
                have hfz73_1 := blk_frozen BK119.out 1
                have hnb74 := NB118_123.out
                have hnc74 := NB123_118.out
                have hcz75_0 : w32.cell? ⟨gb118, 0, none⟩ = some (.int .i64 t113) := (blk_cell BK118.out 0).trans rfl
                have hcz75_1 : w32.cell? ⟨gb118, 1, none⟩ = some (.int .i64 t114) := (blk_cell BK118.out 1).trans rfl
                have hfz75_0 := blk_frozen BK118.out 0
                have hfz75_1 := blk_frozen BK118.out 1
                go_wp2_with (first | ((with_reducible refine gate_callee (f := 21) rfl ?_); refine goesL_ (some 55) rfl rfl Try.func21 (by kernel_rfl) rfl #[.agg #[.int .i64 t115, .int .i64 t116], .agg #[.int .i64 t113, .int .i64 t114]] rfl (by (try simp only [List.map_toArray, List.map_cons, List.map_nil]); first | done | rfl | (simp only [List.length_drop, List.length_take]; rfl)) ?_; (with_reducible refine (num_Rat_Cmp.calls t115 t116 t113 t114 t125 _ A33.out).mono ?_); rintro e w76 ⟨rfl, hb⟩; refine ⟨_, rfl, ?_⟩; have n0_ := Aside0.mk (blk_below (g := gb118) (o := .cells #[.int .i64 t113, .int .i64 t114] 24 (0, 0)) (by (with_reducible repeat (first | refine blk_drewN ?_ _ | refine blk_drew ?_ | refine blk_alloc ?_ _)); exact BK118.out) hb); have n1_ := Aside0.mk (blk_below (g := gb119) (o := .cells #[.int .i64 t115, .int .i64 t116] 24 (0, 0)) (by (with_reducible repeat (first | refine blk_drewN ?_ _ | refine blk_drew ?_ | refine blk_alloc ?_ _)); exact BK119.out) hb); have n2_ := Aside0.mk (blk_below (g := gb123) (o := .cells #[.int .i64 t120, .int .i64 t121] 24 (0, 0)) (by (with_reducible repeat (first | refine blk_drewN ?_ _ | refine blk_drew ?_ | refine blk_alloc ?_ _)); exact BK123.out) hb); have n3_ := Aside0.mk (below_step (by repeat (first | (with_reducible first | exact HB.out | apply below_alloc | apply pw_below_drewN | apply below_drew1 | refine below_set ?_ GE118.out | refine below_set ?_ GE119.out | refine below_set ?_ GE123.out) | exact HB.out)) hb); clear BK118; clear BK119; clear BK123; clear HB; have BK118 := n0_; have BK119 := n1_; have BK123 := n2_; have HB := n3_; clear n0_ n1_ n2_ n3_; (try clear hb); (try clear hb2); (try clear hk); (try clear hi); have hcz77_0 : w76.cell? ⟨gb118, 0, none⟩ = some (.int .i64 t113) := (blk_cell BK118.out 0).trans rfl; have hcz77_1 : w76.cell? ⟨gb118, 1, none⟩ = some (.int .i64 t114) := (blk_cell BK118.out 1).trans rfl; have hfz77_0 := blk_frozen BK118.out 0; have hfz77_1 := blk_frozen BK118.out 1; have hcz78_0 : w76.cell? ⟨gb119, 0, none⟩ = some (.int .i64 t115) := (blk_cell BK119.out 0).trans rfl; have hcz78_1 : w76.cell? ⟨gb119, 1, none⟩ = some (.int .i64 t116) := (blk_cell BK119.out 1).trans rfl; have hfz78_0 := blk_frozen BK119.out 0; have hfz78_1 := blk_frozen BK119.out 1))
                go_meet
                case rel => exact ⟨_, (false), (by first | rfl | (simp; done) | (simp [*]; done)), H', ⟨by have := HJ9.out; first | omega | exact Nat.le_refl _⟩, ⟨by (with_reducible repeat (first | refine blk_drewN ?_ _ | refine blk_drew ?_ | refine blk_alloc ?_ _)); exact BK118.out⟩, ⟨by (with_reducible repeat (first | refine blk_drewN ?_ _ | refine blk_drew ?_ | refine blk_alloc ?_ _)); exact BK119.out⟩, ⟨by (with_reducible repeat (first | refine blk_drewN ?_ _ | refine blk_drew ?_ | refine blk_alloc ?_ _)); exact BK123.out⟩, ⟨by repeat (first | (with_reducible first | exact HB.out | apply below_alloc | apply pw_below_drewN | apply below_drew1 | refine below_set ?_ GE118.out | refine below_set ?_ GE119.out | refine below_set ?_ GE123.out) | exact HB.out)⟩⟩
          · rw [if_neg c34] at H
            have c34b0 : (t124 == (wrap64 (-t125))) = false := beq_eq_false_iff_ne.mpr c34
            have c34b1 : (t124 != (wrap64 (-t125))) = true := bne_iff_ne.mpr c34
            (first | rw [c34b0] | (simp only [i64_w, i32_w]; rw [c34b0]) | skip)
            have H' := Aside0.mk H
            clear H
            have hnb79 := NB119_118.out
            have hnc79 := NB118_119.out
            have hnb80 := NB119_123.out
            have hnc80 := NB123_119.out
            have hcz81_0 : w32.cell? ⟨gb119, 0, none⟩ = some (.int .i64 t115) := (blk_cell BK119.out 0).trans rfl
            have hcz81_1 : w32.cell? ⟨gb119, 1, none⟩ = some (.int .i64 t116) := (blk_cell BK119.out 1).trans rfl
            have hfz81_0 := blk_frozen BK119.out 0
            have hfz81_1 := blk_frozen BK119.out 1
            have hnb82 := NB118_123.out
            have hnc82 := NB123_118.out
            have hcz83_0 : w32.cell? ⟨gb118, 0, none⟩ = some (.int .i64 t113) := (blk_cell BK118.out 0).trans rfl
            have hcz83_1 : w32.cell? ⟨gb118, 1, none⟩ = some (.int .i64 t114) := (blk_cell BK118.out 1).trans rfl
            have hfz83_0 := blk_frozen BK118.out 0
            have hfz83_1 := blk_frozen BK118.out 1
            go_wp2_with (first | ((with_reducible refine gate_callee (f := 21) rfl ?_); refine goesL_ (some 55) rfl rfl Try.func21 (by kernel_rfl) rfl #[.agg #[.int .i64 t115, .int .i64 t116], .agg #[.int .i64 t113, .int .i64 t114]] rfl (by (try simp only [List.map_toArray, List.map_cons, List.map_nil]); first | done | rfl | (simp only [List.length_drop, List.length_take]; rfl)) ?_; (with_reducible refine (num_Rat_Cmp.calls t115 t116 t113 t114 t125 _ A33.out).mono ?_); rintro e w84 ⟨rfl, hb⟩; refine ⟨_, rfl, ?_⟩; have n0_ := Aside0.mk (blk_below (g := gb118) (o := .cells #[.int .i64 t113, .int .i64 t114] 24 (0, 0)) (by (with_reducible repeat (first | refine blk_drewN ?_ _ | refine blk_drew ?_ | refine blk_alloc ?_ _)); exact BK118.out) hb); have n1_ := Aside0.mk (blk_below (g := gb119) (o := .cells #[.int .i64 t115, .int .i64 t116] 24 (0, 0)) (by (with_reducible repeat (first | refine blk_drewN ?_ _ | refine blk_drew ?_ | refine blk_alloc ?_ _)); exact BK119.out) hb); have n2_ := Aside0.mk (blk_below (g := gb123) (o := .cells #[.int .i64 t120, .int .i64 t121] 24 (0, 0)) (by (with_reducible repeat (first | refine blk_drewN ?_ _ | refine blk_drew ?_ | refine blk_alloc ?_ _)); exact BK123.out) hb); have n3_ := Aside0.mk (below_step (by repeat (first | (with_reducible first | exact HB.out | apply below_alloc | apply pw_below_drewN | apply below_drew1 | refine below_set ?_ GE118.out | refine below_set ?_ GE119.out | refine below_set ?_ GE123.out) | exact HB.out)) hb); clear BK118; clear BK119; clear BK123; clear HB; have BK118 := n0_; have BK119 := n1_; have BK123 := n2_; have HB := n3_; clear n0_ n1_ n2_ n3_; (try clear hb); (try clear hb2); (try clear hk); (try clear hi)))
            go_meet
            case rel => exact ⟨_, (true), (by first | rfl | (simp; done) | (simp [*]; done)), H', ⟨by have := HJ9.out; first | omega | exact Nat.le_refl _⟩, ⟨by (with_reducible repeat (first | refine blk_drewN ?_ _ | refine blk_drew ?_ | refine blk_alloc ?_ _)); exact BK118.out⟩, ⟨by (with_reducible repeat (first | refine blk_drewN ?_ _ | refine blk_drew ?_ | refine blk_alloc ?_ _)); exact BK119.out⟩, ⟨by (with_reducible repeat (first | refine blk_drewN ?_ _ | refine blk_drew ?_ | refine blk_alloc ?_ _)); exact BK123.out⟩, ⟨by repeat (first | (with_reducible first | exact HB.out | apply below_alloc | apply pw_below_drewN | apply below_drew1 | refine below_set ?_ GE118.out | refine below_set ?_ GE119.out | refine below_set ?_ GE123.out) | exact HB.out)⟩⟩
        case rest =>
          clear HC26
          try clear c1
          try clear c2
          try clear p2
          try clear c3
          try clear c4
          try clear c5
          try clear c6
          try clear p6
          try clear c7
          try clear c8
          try clear c14
          try clear c15
          try clear c20
          try clear c21
          try clear c22
          try clear c23
          try clear c24
          try clear c27
          try clear c28
          try clear c30
          try clear c34
          try clear c34b0
          try clear c34b1
          try clear c35
          try clear c35b0
          try clear c35b1
          try clear c35b2
          try clear c36
          try clear c37
          try clear c39
          try clear c44
          try clear c44b0
          try clear c46
          try clear c46b0
          try clear c48
          try clear c49
          try clear c51
          try clear c61
          try clear c62
          try clear c64
          try clear p64
          try clear c71
          try clear c72
          try clear c74
          try clear c79
          try clear c80
          try clear c82
          try clear hcz16_0
          try clear hcz16_1
          try clear hcz17_0
          try clear hcz17_1
          try clear hcz22_0
          try clear hcz22_1
          try clear hcz29_0
          try clear hcz29_1
          try clear hcz31_0
          try clear hcz31_1
          try clear hcz38_0
          try clear hcz38_1
          try clear hcz40_0
          try clear hcz40_1
          try clear hcz42_0
          try clear hcz42_1
          try clear hcz43_0
          try clear hcz43_1
          try clear hcz50_0
          try clear hcz50_1
          try clear hcz52_0
          try clear hcz52_1
          try clear hcz54_0
          try clear hcz54_1
          try clear hcz55_0
          try clear hcz55_1
          try clear hcz56_0
          try clear hcz56_1
          try clear hcz58_0
          try clear hcz58_1
          try clear hcz59_0
          try clear hcz59_1
          try clear hcz63_0
          try clear hcz63_1
          try clear hcz65_0
          try clear hcz65_1
          try clear hcz67_0
          try clear hcz67_1
          try clear hcz68_0
          try clear hcz68_1
          try clear hcz69_0
          try clear hcz69_1
          try clear hcz73_0
          try clear hcz73_1
          try clear hcz75_0
          try clear hcz75_1
          try clear hcz77_0
          try clear hcz77_1
          try clear hcz78_0
          try clear hcz78_1
          try clear hcz81_0
          try clear hcz81_1
          try clear hcz83_0
          try clear hcz83_1
          try clear hfz16_0
          try clear hfz16_1
          try clear hfz17_0
          try clear hfz17_1
          try clear hfz22_0
          try clear hfz22_1
          try clear hfz29_0
          try clear hfz29_1
          try clear hfz31_0
          try clear hfz31_1
          try clear hfz38_0
          try clear hfz38_1
          try clear hfz40_0
          try clear hfz40_1
          try clear hfz42_0
          try clear hfz42_1
          try clear hfz43_0
          try clear hfz43_1
          try clear hfz50_0
          try clear hfz50_1
          try clear hfz52_0
          try clear hfz52_1
          try clear hfz54_0
          try clear hfz54_1
          try clear hfz55_0
          try clear hfz55_1
          try clear hfz56_0
          try clear hfz56_1
          try clear hfz58_0
          try clear hfz58_1
          try clear hfz59_0
          try clear hfz59_1
          try clear hfz63_0
          try clear hfz63_1
          try clear hfz65_0
          try clear hfz65_1
          try clear hfz67_0
          try clear hfz67_1
          try clear hfz68_0
          try clear hfz68_1
          try clear hfz69_0
          try clear hfz69_1
          try clear hfz73_0
          try clear hfz73_1
          try clear hfz75_0
          try clear hfz75_1
          try clear hfz77_0
          try clear hfz77_1
          try clear hfz78_0
          try clear hfz78_1
          try clear hfz81_0
          try clear hfz81_1
          try clear hfz83_0
          try clear hfz83_1
          try clear p2
          obtain ⟨kq, x81_25, rfl, HA, HJ25, BK118, BK119, BK123, HB⟩ := hcut
          cases kq with
          | zero => exact absurd HA.out (by simp [ashlarlaw01_NumOrder.j1])
          | succ kj25 =>
            have H := HA.out
            clear HA
            simp only [ashlarlaw01_NumOrder.j1] at H
            by_cases c85 : x81_25 = true
            · subst c85
              have H1 : (some false) = some r := by rw [if_pos rfl] at H; exact H
              clear H
              have H := H1
              clear H1
              obtain rfl := Option.some.inj H
              go_wp2
              go_ret
              exact ⟨by first | rfl | (simp [errW_none, errW_some] <;> rfl) | (simp [*, errW_none, errW_some] <;> rfl), by repeat (first | (with_reducible first | exact HB.out | apply below_alloc | apply pw_below_drewN | apply below_drew1 | refine below_set ?_ GE118.out | refine below_set ?_ GE119.out | refine below_set ?_ GE123.out) | exact HB.out)⟩
            · replace c85 := Bool.eq_false_iff.mpr c85
              subst c85
              have H1 : ((num_Rat_Plus.f t113 t114 t120 t121).bind fun bt128 => ((num_Rat_Plus.f t115 t116 t120 t121).bind fun bt132 => (if bt128.2.2 = true then (if bt132.2.2 = true then ((num_Rat_Cmp.f bt128.1 bt128.2.1 bt132.1 bt132.2.1).bind fun t136 => (ashlarlaw01_NumOrder.j2 kj25 t112 t124 (t136 != t124) t113 t114 t115 t116)) else (ashlarlaw01_NumOrder.j2 kj25 t112 t124 false t113 t114 t115 t116)) else (ashlarlaw01_NumOrder.j2 kj25 t112 t124 false t113 t114 t115 t116)))) = some r := by rw [if_neg (show ¬ (false = true) by decide)] at H; exact H
              clear H
              have H := H1
              clear H1
              replace H := Option.bind_eq_some_iff.mp H
              obtain ⟨⟨t128, t129, t130⟩, A860, H⟩ := H
              replace H : ((num_Rat_Plus.f t115 t116 t120 t121).bind fun bt132 => (if t130 = true then (if bt132.2.2 = true then ((num_Rat_Cmp.f t128 t129 bt132.1 bt132.2.1).bind fun t136 => (ashlarlaw01_NumOrder.j2 kj25 t112 t124 (t136 != t124) t113 t114 t115 t116)) else (ashlarlaw01_NumOrder.j2 kj25 t112 t124 false t113 t114 t115 t116)) else (ashlarlaw01_NumOrder.j2 kj25 t112 t124 false t113 t114 t115 t116))) = some r := H
              have A86 := Aside0.mk A860
              clear A860
              replace H := Option.bind_eq_some_iff.mp H
              obtain ⟨⟨t132, t133, t134⟩, A870, H⟩ := H
              replace H : (if t130 = true then (if t134 = true then ((num_Rat_Cmp.f t128 t129 t132 t133).bind fun t136 => (ashlarlaw01_NumOrder.j2 kj25 t112 t124 (t136 != t124) t113 t114 t115 t116)) else (ashlarlaw01_NumOrder.j2 kj25 t112 t124 false t113 t114 t115 t116)) else (ashlarlaw01_NumOrder.j2 kj25 t112 t124 false t113 t114 t115 t116)) = some r := H
              have A87 := Aside0.mk A870
              clear A870
              have HC88 := Aside0.mk H
              clear H
              have hnb89 := NB118_119.out
              have hnc89 := NB119_118.out
              have hnb90 := NB118_123.out
              have hnc90 := NB123_118.out
              have hcz91_0 : wc.cell? ⟨gb118, 0, none⟩ = some (.int .i64 t113) := (blk_cell BK118.out 0).trans rfl
              have hcz91_1 : wc.cell? ⟨gb118, 1, none⟩ = some (.int .i64 t114) := (blk_cell BK118.out 1).trans rfl
              have hfz91_0 := blk_frozen BK118.out 0
              have hfz91_1 := blk_frozen BK118.out 1
              have hnb92 := NB123_119.out
              have hnc92 := NB119_123.out
              have hcz93_0 : wc.cell? ⟨gb123, 0, none⟩ = some (.int .i64 t120) := (blk_cell BK123.out 0).trans rfl
              have hcz93_1 : wc.cell? ⟨gb123, 1, none⟩ = some (.int .i64 t121) := (blk_cell BK123.out 1).trans rfl
              have hfz93_0 := blk_frozen BK123.out 0
              have hfz93_1 := blk_frozen BK123.out 1
              go_upto_region 11 with (first | ((with_reducible refine gate_callee (f := 23) rfl ?_); refine goesL_ (some 85) rfl rfl Try.func23 (by kernel_rfl) rfl #[.agg #[.int .i64 t113, .int .i64 t114], .agg #[.int .i64 t120, .int .i64 t121]] rfl (by (try simp only [List.map_toArray, List.map_cons, List.map_nil]); first | done | rfl | (simp only [List.length_drop, List.length_take]; rfl)) ?_; (with_reducible refine (num_Rat_Plus.calls t113 t114 t120 t121 t128 t129 t130 _ A86.out).mono ?_); rintro e w94 ⟨rfl, hb⟩; refine ⟨_, rfl, ?_⟩; have n0_ := Aside0.mk (blk_below (g := gb118) (o := .cells #[.int .i64 t113, .int .i64 t114] 24 (0, 0)) (by (with_reducible repeat (first | refine blk_drewN ?_ _ | refine blk_drew ?_ | refine blk_alloc ?_ _)); exact BK118.out) hb); have n1_ := Aside0.mk (blk_below (g := gb119) (o := .cells #[.int .i64 t115, .int .i64 t116] 24 (0, 0)) (by (with_reducible repeat (first | refine blk_drewN ?_ _ | refine blk_drew ?_ | refine blk_alloc ?_ _)); exact BK119.out) hb); have n2_ := Aside0.mk (blk_below (g := gb123) (o := .cells #[.int .i64 t120, .int .i64 t121] 24 (0, 0)) (by (with_reducible repeat (first | refine blk_drewN ?_ _ | refine blk_drew ?_ | refine blk_alloc ?_ _)); exact BK123.out) hb); have n3_ := Aside0.mk (below_step (by repeat (first | (with_reducible first | exact HB.out | apply below_alloc | apply pw_below_drewN | apply below_drew1 | refine below_set ?_ GE118.out | refine below_set ?_ GE119.out | refine below_set ?_ GE123.out) | exact HB.out)) hb); clear BK118; clear BK119; clear BK123; clear HB; have BK118 := n0_; have BK119 := n1_; have BK123 := n2_; have HB := n3_; clear n0_ n1_ n2_ n3_; (try clear hb); (try clear hb2); (try clear hk); (try clear hi)) | ((with_reducible refine gate_dst (N := 20) rfl ?_); refine box_event ?hg (N := 20) ?hd (cs := #[.int .i64 0, .int .i64 0]) (t := 24) ?hr ?_; (case hd => rfl); (case hg => rfl); (case hr => first | (go_simp; done) | (go_simp; rfl)); intro gb131 hg w95 hbox hb; have n0_ := Aside0.mk (blk_below (g := gb118) (o := .cells #[.int .i64 t113, .int .i64 t114] 24 (0, 0)) (by (with_reducible repeat (first | refine blk_drewN ?_ _ | refine blk_drew ?_ | refine blk_alloc ?_ _)); exact BK118.out) hb); have n1_ := Aside0.mk (blk_below (g := gb119) (o := .cells #[.int .i64 t115, .int .i64 t116] 24 (0, 0)) (by (with_reducible repeat (first | refine blk_drewN ?_ _ | refine blk_drew ?_ | refine blk_alloc ?_ _)); exact BK119.out) hb); have n2_ := Aside0.mk (blk_below (g := gb123) (o := .cells #[.int .i64 t120, .int .i64 t121] 24 (0, 0)) (by (with_reducible repeat (first | refine blk_drewN ?_ _ | refine blk_drew ?_ | refine blk_alloc ?_ _)); exact BK123.out) hb); have n3_ := Aside0.mk (below_step (by repeat (first | (with_reducible first | exact HB.out | apply below_alloc | apply pw_below_drewN | apply below_drew1 | refine below_set ?_ GE118.out | refine below_set ?_ GE119.out | refine below_set ?_ GE123.out) | exact HB.out)) hb); have n4_ := Aside0.mk (hbox); have n5_ := Aside0.mk ((by rw [hg]; exact (below_size (by repeat (first | (with_reducible first | exact HB.out | apply below_alloc | apply pw_below_drewN | apply below_drew1 | refine below_set ?_ GE118.out | refine below_set ?_ GE119.out | refine below_set ?_ GE123.out) | exact HB.out))) : w.heap.size ≤ gb131)); have n6_ := Aside0.mk ((by rw [hg]; exact (below_size (by repeat (first | (with_reducible first | exact HB.out | apply below_alloc | apply pw_below_drewN | apply below_drew1 | refine below_set ?_ GE118.out | refine below_set ?_ GE119.out | refine below_set ?_ GE123.out) | exact HB.out))) : w.heap.size ≤ gb131)); have n7_ := Aside0.mk ((by rw [hg]; exact Nat.ne_of_lt (blk_lt (g := gb118) (o := .cells #[.int .i64 t113, .int .i64 t114] 24 (0, 0)) (by (with_reducible repeat (first | refine blk_drewN ?_ _ | refine blk_drew ?_ | refine blk_alloc ?_ _)); exact BK118.out)) : gb118 ≠ gb131)); have n8_ := Aside0.mk ((by rw [hg]; exact Nat.ne_of_gt (blk_lt (g := gb118) (o := .cells #[.int .i64 t113, .int .i64 t114] 24 (0, 0)) (by (with_reducible repeat (first | refine blk_drewN ?_ _ | refine blk_drew ?_ | refine blk_alloc ?_ _)); exact BK118.out)) : gb131 ≠ gb118)); have n9_ := Aside0.mk ((by rw [hg]; exact Nat.ne_of_lt (blk_lt (g := gb119) (o := .cells #[.int .i64 t115, .int .i64 t116] 24 (0, 0)) (by (with_reducible repeat (first | refine blk_drewN ?_ _ | refine blk_drew ?_ | refine blk_alloc ?_ _)); exact BK119.out)) : gb119 ≠ gb131)); have n10_ := Aside0.mk ((by rw [hg]; exact Nat.ne_of_gt (blk_lt (g := gb119) (o := .cells #[.int .i64 t115, .int .i64 t116] 24 (0, 0)) (by (with_reducible repeat (first | refine blk_drewN ?_ _ | refine blk_drew ?_ | refine blk_alloc ?_ _)); exact BK119.out)) : gb131 ≠ gb119)); have n11_ := Aside0.mk ((by rw [hg]; exact Nat.ne_of_lt (blk_lt (g := gb123) (o := .cells #[.int .i64 t120, .int .i64 t121] 24 (0, 0)) (by (with_reducible repeat (first | refine blk_drewN ?_ _ | refine blk_drew ?_ | refine blk_alloc ?_ _)); exact BK123.out)) : gb123 ≠ gb131)); have n12_ := Aside0.mk ((by rw [hg]; exact Nat.ne_of_gt (blk_lt (g := gb123) (o := .cells #[.int .i64 t120, .int .i64 t121] 24 (0, 0)) (by (with_reducible repeat (first | refine blk_drewN ?_ _ | refine blk_drew ?_ | refine blk_alloc ?_ _)); exact BK123.out)) : gb131 ≠ gb123)); clear BK118; clear BK119; clear BK123; clear HB; have BK118 := n0_; have BK119 := n1_; have BK123 := n2_; have HB := n3_; have BK131 := n4_; have GW131 := n5_; have GE131 := n6_; have NB118_131 := n7_; have NB131_118 := n8_; have NB119_131 := n9_; have NB131_119 := n10_; have NB123_131 := n11_; have NB131_123 := n12_; clear n0_ n1_ n2_ n3_ n4_ n5_ n6_ n7_ n8_ n9_ n10_ n11_ n12_; clear hb hbox hg; have hnb96 := NB131_118.out; have hnc96 := NB118_131.out; have hnb97 := NB131_119.out; have hnc97 := NB119_131.out; have hnb98 := NB131_123.out; have hnc98 := NB123_131.out; have hcz99_0 : w95.cell? ⟨gb131, 0, none⟩ = some (.int .i64 0) := (blk_cell BK131.out 0).trans rfl; have hcz99_1 : w95.cell? ⟨gb131, 1, none⟩ = some (.int .i64 0) := (blk_cell BK131.out 1).trans rfl; have hfz99_0 := blk_frozen BK131.out 0; have hfz99_1 := blk_frozen BK131.out 1; have hcz100_0 : w95.cell? ⟨gb119, 0, none⟩ = some (.int .i64 t115) := (blk_cell BK119.out 0).trans rfl; have hcz100_1 : w95.cell? ⟨gb119, 1, none⟩ = some (.int .i64 t116) := (blk_cell BK119.out 1).trans rfl; have hfz100_0 := blk_frozen BK119.out 0; have hfz100_1 := blk_frozen BK119.out 1; have hcz101_0 : w95.cell? ⟨gb123, 0, none⟩ = some (.int .i64 t120) := (blk_cell BK123.out 0).trans rfl; have hcz101_1 : w95.cell? ⟨gb123, 1, none⟩ = some (.int .i64 t121) := (blk_cell BK123.out 1).trans rfl; have hfz101_0 := blk_frozen BK123.out 0; have hfz101_1 := blk_frozen BK123.out 1) | ((with_reducible refine gate_callee (f := 23) rfl ?_); refine goesL_ (some 91) rfl rfl Try.func23 (by kernel_rfl) rfl #[.agg #[.int .i64 t115, .int .i64 t116], .agg #[.int .i64 t120, .int .i64 t121]] rfl (by (try simp only [List.map_toArray, List.map_cons, List.map_nil]); first | done | rfl | (simp only [List.length_drop, List.length_take]; rfl)) ?_; (with_reducible refine (num_Rat_Plus.calls t115 t116 t120 t121 t132 t133 t134 _ A87.out).mono ?_); rintro e w102 ⟨rfl, hb⟩; refine ⟨_, rfl, ?_⟩; have n0_ := Aside0.mk (blk_below (g := gb118) (o := .cells #[.int .i64 t113, .int .i64 t114] 24 (0, 0)) (by (with_reducible repeat (first | refine blk_drewN ?_ _ | refine blk_drew ?_ | refine blk_alloc ?_ _)); refine blk_far ?_ NB118_131.out _; (with_reducible repeat (first | refine blk_drewN ?_ _ | refine blk_drew ?_ | refine blk_alloc ?_ _)); refine blk_far ?_ NB118_131.out _; (with_reducible repeat (first | refine blk_drewN ?_ _ | refine blk_drew ?_ | refine blk_alloc ?_ _)); exact BK118.out) hb); have n1_ := Aside0.mk (blk_below (g := gb119) (o := .cells #[.int .i64 t115, .int .i64 t116] 24 (0, 0)) (by (with_reducible repeat (first | refine blk_drewN ?_ _ | refine blk_drew ?_ | refine blk_alloc ?_ _)); refine blk_far ?_ NB119_131.out _; (with_reducible repeat (first | refine blk_drewN ?_ _ | refine blk_drew ?_ | refine blk_alloc ?_ _)); refine blk_far ?_ NB119_131.out _; (with_reducible repeat (first | refine blk_drewN ?_ _ | refine blk_drew ?_ | refine blk_alloc ?_ _)); exact BK119.out) hb); have n2_ := Aside0.mk (blk_below (g := gb123) (o := .cells #[.int .i64 t120, .int .i64 t121] 24 (0, 0)) (by (with_reducible repeat (first | refine blk_drewN ?_ _ | refine blk_drew ?_ | refine blk_alloc ?_ _)); refine blk_far ?_ NB123_131.out _; (with_reducible repeat (first | refine blk_drewN ?_ _ | refine blk_drew ?_ | refine blk_alloc ?_ _)); refine blk_far ?_ NB123_131.out _; (with_reducible repeat (first | refine blk_drewN ?_ _ | refine blk_drew ?_ | refine blk_alloc ?_ _)); exact BK123.out) hb); have n3_ := Aside0.mk (blk_below (g := gb131) (o := .cells #[.int .i64 t128, .int .i64 t129] 24 (0, 0)) (by (with_reducible repeat (first | refine blk_drewN ?_ _ | refine blk_drew ?_ | refine blk_alloc ?_ _)); refine blk_put (cs := #[.int .i64 t128, .int .i64 0]) ?_ 1 _ rfl; (with_reducible repeat (first | refine blk_drewN ?_ _ | refine blk_drew ?_ | refine blk_alloc ?_ _)); refine blk_put (cs := #[.int .i64 0, .int .i64 0]) ?_ 0 _ rfl; (with_reducible repeat (first | refine blk_drewN ?_ _ | refine blk_drew ?_ | refine blk_alloc ?_ _)); exact BK131.out) hb); have n4_ := Aside0.mk (below_step (by repeat (first | (with_reducible first | exact HB.out | apply below_alloc | apply pw_below_drewN | apply below_drew1 | refine below_set ?_ GE118.out | refine below_set ?_ GE119.out | refine below_set ?_ GE123.out | refine below_set ?_ GE131.out) | exact HB.out)) hb); clear BK118; clear BK119; clear BK123; clear BK131; clear HB; have BK118 := n0_; have BK119 := n1_; have BK123 := n2_; have BK131 := n3_; have HB := n4_; clear n0_ n1_ n2_ n3_ n4_; (try clear hb); (try clear hb2); (try clear hk); (try clear hi)) | ((with_reducible refine gate_dst (N := 22) rfl ?_); refine box_event ?hg (N := 22) ?hd (cs := #[.int .i64 0, .int .i64 0]) (t := 24) ?hr ?_; (case hd => rfl); (case hg => rfl); (case hr => first | (go_simp; done) | (go_simp; rfl)); intro gb135 hg w103 hbox hb; have n0_ := Aside0.mk (blk_below (g := gb118) (o := .cells #[.int .i64 t113, .int .i64 t114] 24 (0, 0)) (by (with_reducible repeat (first | refine blk_drewN ?_ _ | refine blk_drew ?_ | refine blk_alloc ?_ _)); exact BK118.out) hb); have n1_ := Aside0.mk (blk_below (g := gb119) (o := .cells #[.int .i64 t115, .int .i64 t116] 24 (0, 0)) (by (with_reducible repeat (first | refine blk_drewN ?_ _ | refine blk_drew ?_ | refine blk_alloc ?_ _)); exact BK119.out) hb); have n2_ := Aside0.mk (blk_below (g := gb123) (o := .cells #[.int .i64 t120, .int .i64 t121] 24 (0, 0)) (by (with_reducible repeat (first | refine blk_drewN ?_ _ | refine blk_drew ?_ | refine blk_alloc ?_ _)); exact BK123.out) hb); have n3_ := Aside0.mk (blk_below (g := gb131) (o := .cells #[.int .i64 t128, .int .i64 t129] 24 (0, 0)) (by (with_reducible repeat (first | refine blk_drewN ?_ _ | refine blk_drew ?_ | refine blk_alloc ?_ _)); exact BK131.out) hb); have n4_ := Aside0.mk (below_step (by repeat (first | (with_reducible first | exact HB.out | apply below_alloc | apply pw_below_drewN | apply below_drew1 | refine below_set ?_ GE118.out | refine below_set ?_ GE119.out | refine below_set ?_ GE123.out | refine below_set ?_ GE131.out) | exact HB.out)) hb); have n5_ := Aside0.mk (hbox); have n6_ := Aside0.mk ((by rw [hg]; exact (below_size (by repeat (first | (with_reducible first | exact HB.out | apply below_alloc | apply pw_below_drewN | apply below_drew1 | refine below_set ?_ GE118.out | refine below_set ?_ GE119.out | refine below_set ?_ GE123.out | refine below_set ?_ GE131.out) | exact HB.out))) : w.heap.size ≤ gb135)); have n7_ := Aside0.mk ((by rw [hg]; exact (below_size (by repeat (first | (with_reducible first | exact HB.out | apply below_alloc | apply pw_below_drewN | apply below_drew1 | refine below_set ?_ GE118.out | refine below_set ?_ GE119.out | refine below_set ?_ GE123.out | refine below_set ?_ GE131.out) | exact HB.out))) : w.heap.size ≤ gb135)); have n8_ := Aside0.mk ((by rw [hg]; exact Nat.ne_of_lt (blk_lt (g := gb118) (o := .cells #[.int .i64 t113, .int .i64 t114] 24 (0, 0)) (by (with_reducible repeat (first | refine blk_drewN ?_ _ | refine blk_drew ?_ | refine blk_alloc ?_ _)); exact BK118.out)) : gb118 ≠ gb135)); have n9_ := Aside0.mk ((by rw [hg]; exact Nat.ne_of_gt (blk_lt (g := gb118) (o := .cells #[.int .i64 t113, .int .i64 t114] 24 (0, 0)) (by (with_reducible repeat (first | refine blk_drewN ?_ _ | refine blk_drew ?_ | refine blk_alloc ?_ _)); exact BK118.out)) : gb135 ≠ gb118)); have n10_ := Aside0.mk ((by rw [hg]; exact Nat.ne_of_lt (blk_lt (g := gb119) (o := .cells #[.int .i64 t115, .int .i64 t116] 24 (0, 0)) (by (with_reducible repeat (first | refine blk_drewN ?_ _ | refine blk_drew ?_ | refine blk_alloc ?_ _)); exact BK119.out)) : gb119 ≠ gb135)); have n11_ := Aside0.mk ((by rw [hg]; exact Nat.ne_of_gt (blk_lt (g := gb119) (o := .cells #[.int .i64 t115, .int .i64 t116] 24 (0, 0)) (by (with_reducible repeat (first | refine blk_drewN ?_ _ | refine blk_drew ?_ | refine blk_alloc ?_ _)); exact BK119.out)) : gb135 ≠ gb119)); have n12_ := Aside0.mk ((by rw [hg]; exact Nat.ne_of_lt (blk_lt (g := gb123) (o := .cells #[.int .i64 t120, .int .i64 t121] 24 (0, 0)) (by (with_reducible repeat (first | refine blk_drewN ?_ _ | refine blk_drew ?_ | refine blk_alloc ?_ _)); exact BK123.out)) : gb123 ≠ gb135)); have n13_ := Aside0.mk ((by rw [hg]; exact Nat.ne_of_gt (blk_lt (g := gb123) (o := .cells #[.int .i64 t120, .int .i64 t121] 24 (0, 0)) (by (with_reducible repeat (first | refine blk_drewN ?_ _ | refine blk_drew ?_ | refine blk_alloc ?_ _)); exact BK123.out)) : gb135 ≠ gb123)); have n14_ := Aside0.mk ((by rw [hg]; exact Nat.ne_of_lt (blk_lt (g := gb131) (o := .cells #[.int .i64 t128, .int .i64 t129] 24 (0, 0)) (by (with_reducible repeat (first | refine blk_drewN ?_ _ | refine blk_drew ?_ | refine blk_alloc ?_ _)); exact BK131.out)) : gb131 ≠ gb135)); have n15_ := Aside0.mk ((by rw [hg]; exact Nat.ne_of_gt (blk_lt (g := gb131) (o := .cells #[.int .i64 t128, .int .i64 t129] 24 (0, 0)) (by (with_reducible repeat (first | refine blk_drewN ?_ _ | refine blk_drew ?_ | refine blk_alloc ?_ _)); exact BK131.out)) : gb135 ≠ gb131)); clear BK118; clear BK119; clear BK123; clear BK131; clear HB; have BK118 := n0_; have BK119 := n1_; have BK123 := n2_; have BK131 := n3_; have HB := n4_; have BK135 := n5_; have GW135 := n6_; have GE135 := n7_; have NB118_135 := n8_; have NB135_118 := n9_; have NB119_135 := n10_; have NB135_119 := n11_; have NB123_135 := n12_; have NB135_123 := n13_; have NB131_135 := n14_; have NB135_131 := n15_; clear n0_ n1_ n2_ n3_ n4_ n5_ n6_ n7_ n8_ n9_ n10_ n11_ n12_ n13_ n14_ n15_; clear hb hbox hg; have hnb104 := NB135_118.out; have hnc104 := NB118_135.out; have hnb105 := NB135_119.out; have hnc105 := NB119_135.out; have hnb106 := NB135_123.out; have hnc106 := NB123_135.out; have hnb107 := NB135_131.out; have hnc107 := NB131_135.out; have hcz108_0 : w103.cell? ⟨gb135, 0, none⟩ = some (.int .i64 0) := (blk_cell BK135.out 0).trans rfl; have hcz108_1 : w103.cell? ⟨gb135, 1, none⟩ = some (.int .i64 0) := (blk_cell BK135.out 1).trans rfl; have hfz108_0 := blk_frozen BK135.out 0; have hfz108_1 := blk_frozen BK135.out 1))
              (try simp only [Act.put, List.setIfInBounds_toArray, List.set_cons_zero, List.set_cons_succ])
              go_cut [104] (fun v104 wc => ∃ (kq : Nat) (x104_87 : Bool), v104 = .bool x104_87 ∧ Aside0 (ashlarlaw01_NumOrder.j2 kq t112 t124 x104_87 t113 t114 t115 t116 = some r) ∧ Aside0 (kq ≤ kj25) ∧ Aside0 (wc.heap[gb118]? = some (.cells #[.int .i64 t113, .int .i64 t114] 24 (0, 0))) ∧ Aside0 (wc.heap[gb119]? = some (.cells #[.int .i64 t115, .int .i64 t116] 24 (0, 0))) ∧ Aside0 (wc.heap[gb123]? = some (.cells #[.int .i64 t120, .int .i64 t121] 24 (0, 0))) ∧ Aside0 (wc.heap[gb131]? = some (.cells #[.int .i64 t128, .int .i64 t129] 24 (0, 0))) ∧ Aside0 (wc.heap[gb135]? = some (.cells #[.int .i64 t132, .int .i64 t133] 24 (0, 0))) ∧ Aside0 (Below w.heap.size w wc))
              case first =>
                have H := HC88.out
                clear HC88
                by_cases c109 : t130 = true
                · subst c109
                  have H1 : (if t134 = true then ((num_Rat_Cmp.f t128 t129 t132 t133).bind fun t136 => (ashlarlaw01_NumOrder.j2 kj25 t112 t124 (t136 != t124) t113 t114 t115 t116)) else (ashlarlaw01_NumOrder.j2 kj25 t112 t124 false t113 t114 t115 t116)) = some r := by rw [if_pos rfl] at H; exact H
                  clear H
                  have H := H1
                  clear H1
                  by_cases c110 : t134 = true
                  · subst c110
                    have H1 : ((num_Rat_Cmp.f t128 t129 t132 t133).bind fun t136 => (ashlarlaw01_NumOrder.j2 kj25 t112 t124 (t136 != t124) t113 t114 t115 t116)) = some r := by rw [if_pos rfl] at H; exact H
                    clear H
                    have H := H1
                    clear H1
                    replace H := Option.bind_eq_some_iff.mp H
                    obtain ⟨t136, A1110, H⟩ := H
                    replace H : (ashlarlaw01_NumOrder.j2 kj25 t112 t124 (t136 != t124) t113 t114 t115 t116) = some r := H
                    have A111 := Aside0.mk A1110
                    clear A1110
                    have H' := Aside0.mk H
                    clear H
                    have hnb112 := NB131_118.out
                    have hnc112 := NB118_131.out
                    have hnb113 := NB131_119.out
                    have hnc113 := NB119_131.out
                    have hnb114 := NB131_123.out
                    have hnc114 := NB123_131.out
                    have hnb115 := NB131_135.out
                    have hnc115 := NB135_131.out
                    have hcz116_0 : w103.cell? ⟨gb131, 0, none⟩ = some (.int .i64 t128) := (blk_cell BK131.out 0).trans rfl
                    have hcz116_1 : w103.cell? ⟨gb131, 1, none⟩ = some (.int .i64 t129) := (blk_cell BK131.out 1).trans rfl
                    have hfz116_0 := blk_frozen BK131.out 0
                    have hfz116_1 := blk_frozen BK131.out 1
                    have hnb117 := NB135_118.out
                    have hnc117 := NB118_135.out
                    have hnb118 := NB135_119.out
                    have hnc118 := NB119_135.out
                    have hnb119 := NB135_123.out
                    have hnc119 := NB123_135.out
                    have hcz120_0 : w103.cell? ⟨gb135, 0, none⟩ = some (.int .i64 0) := (blk_cell BK135.out 0).trans rfl
                    have hcz120_1 : w103.cell? ⟨gb135, 1, none⟩ = some (.int .i64 0) := (blk_cell BK135.out 1).trans rfl
                    have hfz120_0 := blk_frozen BK135.out 0
                    have hfz120_1 := blk_frozen BK135.out 1
                    go_wp2_with (first | (go_at_call 21; (with_reducible refine (num_Rat_Cmp.calls t128 t129 t132 t133 t136 _ A111.out).mono ?_); rintro e w121 ⟨rfl, hb⟩; have n0_ := Aside0.mk (blk_below (g := gb118) (o := .cells #[.int .i64 t113, .int .i64 t114] 24 (0, 0)) (by (with_reducible repeat (first | refine blk_drewN ?_ _ | refine blk_drew ?_ | refine blk_alloc ?_ _)); refine blk_far ?_ NB118_135.out _; (with_reducible repeat (first | refine blk_drewN ?_ _ | refine blk_drew ?_ | refine blk_alloc ?_ _)); refine blk_far ?_ NB118_135.out _; (with_reducible repeat (first | refine blk_drewN ?_ _ | refine blk_drew ?_ | refine blk_alloc ?_ _)); exact BK118.out) hb); have n1_ := Aside0.mk (blk_below (g := gb119) (o := .cells #[.int .i64 t115, .int .i64 t116] 24 (0, 0)) (by (with_reducible repeat (first | refine blk_drewN ?_ _ | refine blk_drew ?_ | refine blk_alloc ?_ _)); refine blk_far ?_ NB119_135.out _; (with_reducible repeat (first | refine blk_drewN ?_ _ | refine blk_drew ?_ | refine blk_alloc ?_ _)); refine blk_far ?_ NB119_135.out _; (with_reducible repeat (first | refine blk_drewN ?_ _ | refine blk_drew ?_ | refine blk_alloc ?_ _)); exact BK119.out) hb); have n2_ := Aside0.mk (blk_below (g := gb123) (o := .cells #[.int .i64 t120, .int .i64 t121] 24 (0, 0)) (by (with_reducible repeat (first | refine blk_drewN ?_ _ | refine blk_drew ?_ | refine blk_alloc ?_ _)); refine blk_far ?_ NB123_135.out _; (with_reducible repeat (first | refine blk_drewN ?_ _ | refine blk_drew ?_ | refine blk_alloc ?_ _)); refine blk_far ?_ NB123_135.out _; (with_reducible repeat (first | refine blk_drewN ?_ _ | refine blk_drew ?_ | refine blk_alloc ?_ _)); exact BK123.out) hb); have n3_ := Aside0.mk (blk_below (g := gb131) (o := .cells #[.int .i64 t128, .int .i64 t129] 24 (0, 0)) (by (with_reducible repeat (first | refine blk_drewN ?_ _ | refine blk_drew ?_ | refine blk_alloc ?_ _)); refine blk_far ?_ NB131_135.out _; (with_reducible repeat (first | refine blk_drewN ?_ _ | refine blk_drew ?_ | refine blk_alloc ?_ _)); refine blk_far ?_ NB131_135.out _; (with_reducible repeat (first | refine blk_drewN ?_ _ | refine blk_drew ?_ | refine blk_alloc ?_ _)); exact BK131.out) hb); have n4_ := Aside0.mk (blk_below (g := gb135) (o := .cells #[.int .i64 t132, .int .i64 t133] 24 (0, 0)) (by (with_reducible repeat (first | refine blk_drewN ?_ _ | refine blk_drew ?_ | refine blk_alloc ?_ _)); refine blk_put (cs := #[.int .i64 t132, .int .i64 0]) ?_ 1 _ rfl; (with_reducible repeat (first | refine blk_drewN ?_ _ | refine blk_drew ?_ | refine blk_alloc ?_ _)); refine blk_put (cs := #[.int .i64 0, .int .i64 0]) ?_ 0 _ rfl; (with_reducible repeat (first | refine blk_drewN ?_ _ | refine blk_drew ?_ | refine blk_alloc ?_ _)); exact BK135.out) hb); have n5_ := Aside0.mk (below_step (by repeat (first | (with_reducible first | exact HB.out | apply below_alloc | apply pw_below_drewN | apply below_drew1 | refine below_set ?_ GE118.out | refine below_set ?_ GE119.out | refine below_set ?_ GE123.out | refine below_set ?_ GE131.out | refine below_set ?_ GE135.out) | exact HB.out)) hb); clear BK118; clear BK119; clear BK123; clear BK131; clear BK135; clear HB; have BK118 := n0_; have BK119 := n1_; have BK123 := n2_; have BK131 := n3_; have BK135 := n4_; have HB := n5_; clear n0_ n1_ n2_ n3_ n4_ n5_; (try clear hb); (try clear hb2); (try clear hk); (try clear hi)))
                    go_meet
                    case rel => exact ⟨_, ((t136 != t124)), (by first | rfl | (simp; done) | (simp [*]; done)), H', ⟨by have := HJ9.out; have := HJ25.out; first | omega | exact Nat.le_refl _⟩, ⟨by (with_reducible repeat (first | refine blk_drewN ?_ _ | refine blk_drew ?_ | refine blk_alloc ?_ _)); exact BK118.out⟩, ⟨by (with_reducible repeat (first | refine blk_drewN ?_ _ | refine blk_drew ?_ | refine blk_alloc ?_ _)); exact BK119.out⟩, ⟨by (with_reducible repeat (first | refine blk_drewN ?_ _ | refine blk_drew ?_ | refine blk_alloc ?_ _)); exact BK123.out⟩, ⟨by (with_reducible repeat (first | refine blk_drewN ?_ _ | refine blk_drew ?_ | refine blk_alloc ?_ _)); exact BK131.out⟩, ⟨by (with_reducible repeat (first | refine blk_drewN ?_ _ | refine blk_drew ?_ | refine blk_alloc ?_ _)); exact BK135.out⟩, ⟨by repeat (first | (with_reducible first | exact HB.out | apply below_alloc | apply pw_below_drewN | apply below_drew1 | refine below_set ?_ GE118.out | refine below_set ?_ GE119.out | refine below_set ?_ GE123.out | refine below_set ?_ GE131.out | refine below_set ?_ GE135.out) | exact HB.out)⟩⟩
                  · replace c110 := Bool.eq_false_iff.mpr c110
                    subst c110
                    have H1 : (ashlarlaw01_NumOrder.j2 kj25 t112 t124 false t113 t114 t115 t116) = some r := by rw [if_neg (show ¬ (false = true) by decide)] at H; exact H
                    clear H
                    have H := H1
                    clear H1
                    have H' := Aside0.mk H
                    clear H
                    go_wp2
                    go_meet
                    case rel => exact ⟨_, (false), (by first | rfl | (simp; done) | (simp [*]; done)), H', ⟨by have := HJ9.out; have := HJ25.out; first | omega | exact Nat.le_refl _⟩, ⟨by (with_reducible repeat (first | refine blk_drewN ?_ _ | refine blk_drew ?_ | refine blk_alloc ?_ _)); refine blk_far ?_ NB118_135.out _; (with_reducible repeat (first | refine blk_drewN ?_ _ | refine blk_drew ?_ | refine blk_alloc ?_ _)); refine blk_far ?_ NB118_135.out _; (with_reducible repeat (first | refine blk_drewN ?_ _ | refine blk_drew ?_ | refine blk_alloc ?_ _)); exact BK118.out⟩, ⟨by (with_reducible repeat (first | refine blk_drewN ?_ _ | refine blk_drew ?_ | refine blk_alloc ?_ _)); refine blk_far ?_ NB119_135.out _; (with_reducible repeat (first | refine blk_drewN ?_ _ | refine blk_drew ?_ | refine blk_alloc ?_ _)); refine blk_far ?_ NB119_135.out _; (with_reducible repeat (first | refine blk_drewN ?_ _ | refine blk_drew ?_ | refine blk_alloc ?_ _)); exact BK119.out⟩, ⟨by (with_reducible repeat (first | refine blk_drewN ?_ _ | refine blk_drew ?_ | refine blk_alloc ?_ _)); refine blk_far ?_ NB123_135.out _; (with_reducible repeat (first | refine blk_drewN ?_ _ | refine blk_drew ?_ | refine blk_alloc ?_ _)); refine blk_far ?_ NB123_135.out _; (with_reducible repeat (first | refine blk_drewN ?_ _ | refine blk_drew ?_ | refine blk_alloc ?_ _)); exact BK123.out⟩, ⟨by (with_reducible repeat (first | refine blk_drewN ?_ _ | refine blk_drew ?_ | refine blk_alloc ?_ _)); refine blk_far ?_ NB131_135.out _; (with_reducible repeat (first | refine blk_drewN ?_ _ | refine blk_drew ?_ | refine blk_alloc ?_ _)); refine blk_far ?_ NB131_135.out _; (with_reducible repeat (first | refine blk_drewN ?_ _ | refine blk_drew ?_ | refine blk_alloc ?_ _)); exact BK131.out⟩, ⟨by (with_reducible repeat (first | refine blk_drewN ?_ _ | refine blk_drew ?_ | refine blk_alloc ?_ _)); refine blk_put (cs := #[.int .i64 t132, .int .i64 0]) ?_ 1 _ rfl; (with_reducible repeat (first | refine blk_drewN ?_ _ | refine blk_drew ?_ | refine blk_alloc ?_ _)); refine blk_put (cs := #[.int .i64 0, .int .i64 0]) ?_ 0 _ rfl; (with_reducible repeat (first | refine blk_drewN ?_ _ | refine blk_drew ?_ | refine blk_alloc ?_ _)); exact BK135.out⟩, ⟨by repeat (first | (with_reducible first | exact HB.out | apply below_alloc | apply pw_below_drewN | apply below_drew1 | refine below_set ?_ GE118.out | refine below_set ?_ GE119.out | refine below_set ?_ GE123.out | refine below_set ?_ GE131.out | refine below_set ?_ GE135.out) | exact HB.out)⟩⟩
                · replace c109 := Bool.eq_false_iff.mpr c109
                  subst c109
                  have H1 : (ashlarlaw01_NumOrder.j2 kj25 t112 t124 false t113 t114 t115 t116) = some r := by rw [if_neg (show ¬ (false = true) by decide)] at H; exact H
                  clear H
                  have H := H1
                  clear H1
                  have H' := Aside0.mk H
                  clear H
                  go_wp2
                  go_meet
                  case rel => exact ⟨_, (false), (by first | rfl | (simp; done) | (simp [*]; done)), H', ⟨by have := HJ9.out; have := HJ25.out; first | omega | exact Nat.le_refl _⟩, ⟨by (with_reducible repeat (first | refine blk_drewN ?_ _ | refine blk_drew ?_ | refine blk_alloc ?_ _)); refine blk_far ?_ NB118_135.out _; (with_reducible repeat (first | refine blk_drewN ?_ _ | refine blk_drew ?_ | refine blk_alloc ?_ _)); refine blk_far ?_ NB118_135.out _; (with_reducible repeat (first | refine blk_drewN ?_ _ | refine blk_drew ?_ | refine blk_alloc ?_ _)); exact BK118.out⟩, ⟨by (with_reducible repeat (first | refine blk_drewN ?_ _ | refine blk_drew ?_ | refine blk_alloc ?_ _)); refine blk_far ?_ NB119_135.out _; (with_reducible repeat (first | refine blk_drewN ?_ _ | refine blk_drew ?_ | refine blk_alloc ?_ _)); refine blk_far ?_ NB119_135.out _; (with_reducible repeat (first | refine blk_drewN ?_ _ | refine blk_drew ?_ | refine blk_alloc ?_ _)); exact BK119.out⟩, ⟨by (with_reducible repeat (first | refine blk_drewN ?_ _ | refine blk_drew ?_ | refine blk_alloc ?_ _)); refine blk_far ?_ NB123_135.out _; (with_reducible repeat (first | refine blk_drewN ?_ _ | refine blk_drew ?_ | refine blk_alloc ?_ _)); refine blk_far ?_ NB123_135.out _; (with_reducible repeat (first | refine blk_drewN ?_ _ | refine blk_drew ?_ | refine blk_alloc ?_ _)); exact BK123.out⟩, ⟨by (with_reducible repeat (first | refine blk_drewN ?_ _ | refine blk_drew ?_ | refine blk_alloc ?_ _)); refine blk_far ?_ NB131_135.out _; (with_reducible repeat (first | refine blk_drewN ?_ _ | refine blk_drew ?_ | refine blk_alloc ?_ _)); refine blk_far ?_ NB131_135.out _; (with_reducible repeat (first | refine blk_drewN ?_ _ | refine blk_drew ?_ | refine blk_alloc ?_ _)); exact BK131.out⟩, ⟨by (with_reducible repeat (first | refine blk_drewN ?_ _ | refine blk_drew ?_ | refine blk_alloc ?_ _)); refine blk_put (cs := #[.int .i64 t132, .int .i64 0]) ?_ 1 _ rfl; (with_reducible repeat (first | refine blk_drewN ?_ _ | refine blk_drew ?_ | refine blk_alloc ?_ _)); refine blk_put (cs := #[.int .i64 0, .int .i64 0]) ?_ 0 _ rfl; (with_reducible repeat (first | refine blk_drewN ?_ _ | refine blk_drew ?_ | refine blk_alloc ?_ _)); exact BK135.out⟩, ⟨by repeat (first | (with_reducible first | exact HB.out | apply below_alloc | apply pw_below_drewN | apply below_drew1 | refine below_set ?_ GE118.out | refine below_set ?_ GE119.out | refine below_set ?_ GE123.out | refine below_set ?_ GE131.out | refine below_set ?_ GE135.out) | exact HB.out)⟩⟩
              case rest =>
                clear HC88
                try clear c1
                try clear c2
                try clear p2
                try clear c3
                try clear c4
                try clear c5
                try clear c6
                try clear p6
                try clear c7
                try clear c8
                try clear c9
                try clear c10
                try clear c11
                try clear c14
                try clear c15
                try clear c20
                try clear c21
                try clear c22
                try clear c23
                try clear c24
                try clear c27
                try clear c28
                try clear c30
                try clear c34
                try clear c34b0
                try clear c34b1
                try clear c35
                try clear c35b0
                try clear c35b1
                try clear c35b2
                try clear c36
                try clear c37
                try clear c39
                try clear c44
                try clear c44b0
                try clear c46
                try clear c46b0
                try clear c48
                try clear c49
                try clear c51
                try clear c61
                try clear c62
                try clear c64
                try clear p64
                try clear c71
                try clear c72
                try clear c74
                try clear c79
                try clear c80
                try clear c82
                try clear c85
                try clear c89
                try clear c90
                try clear c92
                try clear c96
                try clear c97
                try clear c98
                try clear c104
                try clear c105
                try clear c106
                try clear c107
                try clear c109
                try clear c110
                try clear c112
                try clear c113
                try clear c114
                try clear c115
                try clear c117
                try clear c118
                try clear c119
                try clear hcz100_0
                try clear hcz100_1
                try clear hcz101_0
                try clear hcz101_1
                try clear hcz108_0
                try clear hcz108_1
                try clear hcz116_0
                try clear hcz116_1
                try clear hcz120_0
                try clear hcz120_1
                try clear hcz16_0
                try clear hcz16_1
                try clear hcz17_0
                try clear hcz17_1
                try clear hcz22_0
                try clear hcz22_1
                try clear hcz29_0
                try clear hcz29_1
                try clear hcz31_0
                try clear hcz31_1
                try clear hcz38_0
                try clear hcz38_1
                try clear hcz40_0
                try clear hcz40_1
                try clear hcz42_0
                try clear hcz42_1
                try clear hcz43_0
                try clear hcz43_1
                try clear hcz50_0
                try clear hcz50_1
                try clear hcz52_0
                try clear hcz52_1
                try clear hcz54_0
                try clear hcz54_1
                try clear hcz55_0
                try clear hcz55_1
                try clear hcz56_0
                try clear hcz56_1
                try clear hcz58_0
                try clear hcz58_1
                try clear hcz59_0
                try clear hcz59_1
                try clear hcz63_0
                try clear hcz63_1
                try clear hcz65_0
                try clear hcz65_1
                try clear hcz67_0
                try clear hcz67_1
                try clear hcz68_0
                try clear hcz68_1
                try clear hcz69_0
                try clear hcz69_1
                try clear hcz73_0
                try clear hcz73_1
                try clear hcz75_0
                try clear hcz75_1
                try clear hcz77_0
                try clear hcz77_1
                try clear hcz78_0
                try clear hcz78_1
                try clear hcz81_0
                try clear hcz81_1
                try clear hcz83_0
                try clear hcz83_1
                try clear hcz91_0
                try clear hcz91_1
                try clear hcz93_0
                try clear hcz93_1
                try clear hcz99_0
                try clear hcz99_1
                try clear hfz100_0
                try clear hfz100_1
                try clear hfz101_0
                try clear hfz101_1
                try clear hfz108_0
                try clear hfz108_1
                try clear hfz116_0
                try clear hfz116_1
                try clear hfz120_0
                try clear hfz120_1
                try clear hfz16_0
                try clear hfz16_1
                try clear hfz17_0
                try clear hfz17_1
                try clear hfz22_0
                try clear hfz22_1
                try clear hfz29_0
                try clear hfz29_1
                try clear hfz31_0
                try clear hfz31_1
                try clear hfz38_0
                try clear hfz38_1
                try clear hfz40_0
                try clear hfz40_1
                try clear hfz42_0
                try clear hfz42_1
                try clear hfz43_0
                try clear hfz43_1
                try clear hfz50_0
                try clear hfz50_1
                try clear hfz52_0
                try clear hfz52_1
                try clear hfz54_0
                try clear hfz54_1
                try clear hfz55_0
                try clear hfz55_1
                try clear hfz56_0
                try clear hfz56_1
                try clear hfz58_0
                try clear hfz58_1
                try clear hfz59_0
                try clear hfz59_1
                try clear hfz63_0
                try clear hfz63_1
                try clear hfz65_0
                try clear hfz65_1
                try clear hfz67_0
                try clear hfz67_1
                try clear hfz68_0
                try clear hfz68_1
                try clear hfz69_0
                try clear hfz69_1
                try clear hfz73_0
                try clear hfz73_1
                try clear hfz75_0
                try clear hfz75_1
                try clear hfz77_0
                try clear hfz77_1
                try clear hfz78_0
                try clear hfz78_1
                try clear hfz81_0
                try clear hfz81_1
                try clear hfz83_0
                try clear hfz83_1
                try clear hfz91_0
                try clear hfz91_1
                try clear hfz93_0
                try clear hfz93_1
                try clear hfz99_0
                try clear hfz99_1
                try clear p2
                try clear p6
                try clear p64
                obtain ⟨kq, x104_87, rfl, HA, HJ87, BK118, BK119, BK123, BK131, BK135, HB⟩ := hcut
                cases kq with
                | zero => exact absurd HA.out (by simp [ashlarlaw01_NumOrder.j2])
                | succ kj87 =>
                  have H := HA.out
                  clear HA
                  simp only [ashlarlaw01_NumOrder.j2] at H
                  by_cases c122 : x104_87 = true
                  · subst c122
                    have H1 : (some false) = some r := by rw [if_pos rfl] at H; exact H
                    clear H
                    have H := H1
                    clear H1
                    obtain rfl := Option.some.inj H
                    go_wp2
                    go_ret
                    exact ⟨by first | rfl | (simp [errW_none, errW_some] <;> rfl) | (simp [*, errW_none, errW_some] <;> rfl), by repeat (first | (with_reducible first | exact HB.out | apply below_alloc | apply pw_below_drewN | apply below_drew1 | refine below_set ?_ GE118.out | refine below_set ?_ GE119.out | refine below_set ?_ GE123.out | refine below_set ?_ GE131.out | refine below_set ?_ GE135.out) | exact HB.out)⟩
                  · replace c122 := Bool.eq_false_iff.mpr c122
                    subst c122
                    have H1 : ((num_Rat_Minus.f t113 t114 t115 t116).bind fun bt137 => (if t112 = true then (if bt137.2.2 = true then ((num_Whole.f 0).bind fun bt141 => ((num_Rat_Cmp.f bt137.1 bt137.2.1 bt141.1 bt141.2).bind fun t143 => (some (t143 == t124)))) else (some true)) else (some false))) = some r := by rw [if_neg (show ¬ (false = true) by decide)] at H; exact H
                    clear H
                    have H := H1
                    clear H1
                    replace H := Option.bind_eq_some_iff.mp H
                    obtain ⟨⟨t137, t138, t139⟩, A1230, H⟩ := H
                    replace H : (if t112 = true then (if t139 = true then ((num_Whole.f 0).bind fun bt141 => ((num_Rat_Cmp.f t137 t138 bt141.1 bt141.2).bind fun t143 => (some (t143 == t124)))) else (some true)) else (some false)) = some r := H
                    have A123 := Aside0.mk A1230
                    clear A1230
                    by_cases c124 : t112 = true
                    · subst c124
                      have H1 : (if t139 = true then ((num_Whole.f 0).bind fun bt141 => ((num_Rat_Cmp.f t137 t138 bt141.1 bt141.2).bind fun t143 => (some (t143 == t124)))) else (some true)) = some r := by rw [if_pos rfl] at H; exact H
                      clear H
                      have H := H1
                      clear H1
                      by_cases c125 : t139 = true
                      · subst c125
                        have H1 : ((num_Whole.f 0).bind fun bt141 => ((num_Rat_Cmp.f t137 t138 bt141.1 bt141.2).bind fun t143 => (some (t143 == t124)))) = some r := by rw [if_pos rfl] at H; exact H
                        clear H
                        have H := H1
                        clear H1
                        replace H := Option.bind_eq_some_iff.mp H
                        obtain ⟨⟨t141, t142⟩, A1260, H⟩ := H
                        replace H : ((num_Rat_Cmp.f t137 t138 t141 t142).bind fun t143 => (some (t143 == t124))) = some r := H
                        have A126 := Aside0.mk A1260
                        clear A1260
                        replace H := Option.bind_eq_some_iff.mp H
                        obtain ⟨t143, A1270, H⟩ := H
                        replace H : (some (t143 == t124)) = some r := H
                        have A127 := Aside0.mk A1270
                        clear A1270
                        obtain rfl := Option.some.inj H
                        have hnb128 := NB118_119.out
                        have hnc128 := NB119_118.out
                        have hnb129 := NB118_123.out
                        have hnc129 := NB123_118.out
                        have hnb130 := NB118_131.out
                        have hnc130 := NB131_118.out
                        have hnb131 := NB118_135.out
                        have hnc131 := NB135_118.out
                        have hcz132_0 : wc.cell? ⟨gb118, 0, none⟩ = some (.int .i64 t113) := (blk_cell BK118.out 0).trans rfl
                        have hcz132_1 : wc.cell? ⟨gb118, 1, none⟩ = some (.int .i64 t114) := (blk_cell BK118.out 1).trans rfl
                        have hfz132_0 := blk_frozen BK118.out 0
                        have hfz132_1 := blk_frozen BK118.out 1
                        have hnb133 := NB119_123.out
                        have hnc133 := NB123_119.out
                        have hnb134 := NB119_131.out
                        have hnc134 := NB131_119.out
                        have hnb135 := NB119_135.out
                        have hnc135 := NB135_119.out
                        have hcz136_0 : wc.cell? ⟨gb119, 0, none⟩ = some (.int .i64 t115) := (blk_cell BK119.out 0).trans rfl
                        have hcz136_1 : wc.cell? ⟨gb119, 1, none⟩ = some (.int .i64 t116) := (blk_cell BK119.out 1).trans rfl
                        have hfz136_0 := blk_frozen BK119.out 0
                        have hfz136_1 := blk_frozen BK119.out 1
                        try go_wp2_with (first | ((with_reducible refine gate_callee (f := 24) rfl ?_); refine goesL_ (some 108) rfl rfl Try.func24 (by kernel_rfl) rfl #[.agg #[.int .i64 t113, .int .i64 t114], .agg #[.int .i64 t115, .int .i64 t116]] rfl (by (try simp only [List.map_toArray, List.map_cons, List.map_nil]); first | done | rfl | (simp only [List.length_drop, List.length_take]; rfl)) ?_; (with_reducible refine (num_Rat_Minus.calls t113 t114 t115 t116 t137 t138 true _ A123.out).mono ?_); rintro e w137 ⟨rfl, hb⟩; refine ⟨_, rfl, ?_⟩; have n0_ := Aside0.mk (blk_below (g := gb118) (o := .cells #[.int .i64 t113, .int .i64 t114] 24 (0, 0)) (by (with_reducible repeat (first | refine blk_drewN ?_ _ | refine blk_drew ?_ | refine blk_alloc ?_ _)); exact BK118.out) hb); have n1_ := Aside0.mk (blk_below (g := gb119) (o := .cells #[.int .i64 t115, .int .i64 t116] 24 (0, 0)) (by (with_reducible repeat (first | refine blk_drewN ?_ _ | refine blk_drew ?_ | refine blk_alloc ?_ _)); exact BK119.out) hb); have n2_ := Aside0.mk (blk_below (g := gb123) (o := .cells #[.int .i64 t120, .int .i64 t121] 24 (0, 0)) (by (with_reducible repeat (first | refine blk_drewN ?_ _ | refine blk_drew ?_ | refine blk_alloc ?_ _)); exact BK123.out) hb); have n3_ := Aside0.mk (blk_below (g := gb131) (o := .cells #[.int .i64 t128, .int .i64 t129] 24 (0, 0)) (by (with_reducible repeat (first | refine blk_drewN ?_ _ | refine blk_drew ?_ | refine blk_alloc ?_ _)); exact BK131.out) hb); have n4_ := Aside0.mk (blk_below (g := gb135) (o := .cells #[.int .i64 t132, .int .i64 t133] 24 (0, 0)) (by (with_reducible repeat (first | refine blk_drewN ?_ _ | refine blk_drew ?_ | refine blk_alloc ?_ _)); exact BK135.out) hb); have n5_ := Aside0.mk (below_step (by repeat (first | (with_reducible first | exact HB.out | apply below_alloc | apply pw_below_drewN | apply below_drew1 | refine below_set ?_ GE118.out | refine below_set ?_ GE119.out | refine below_set ?_ GE123.out | refine below_set ?_ GE131.out | refine below_set ?_ GE135.out) | exact HB.out)) hb); clear BK118; clear BK119; clear BK123; clear BK131; clear BK135; clear HB; have BK118 := n0_; have BK119 := n1_; have BK123 := n2_; have BK131 := n3_; have BK135 := n4_; have HB := n5_; clear n0_ n1_ n2_ n3_ n4_ n5_; (try clear hb); (try clear hb2); (try clear hk); (try clear hi)) | ((with_reducible refine gate_dst (N := 24) rfl ?_); refine box_event ?hg (N := 24) ?hd (cs := #[.int .i64 0, .int .i64 0]) (t := 24) ?hr ?_; (case hd => rfl); (case hg => rfl); (case hr => first | (go_simp; done) | (go_simp; rfl)); intro gb140 hg w138 hbox hb; have n0_ := Aside0.mk (blk_below (g := gb118) (o := .cells #[.int .i64 t113, .int .i64 t114] 24 (0, 0)) (by (with_reducible repeat (first | refine blk_drewN ?_ _ | refine blk_drew ?_ | refine blk_alloc ?_ _)); exact BK118.out) hb); have n1_ := Aside0.mk (blk_below (g := gb119) (o := .cells #[.int .i64 t115, .int .i64 t116] 24 (0, 0)) (by (with_reducible repeat (first | refine blk_drewN ?_ _ | refine blk_drew ?_ | refine blk_alloc ?_ _)); exact BK119.out) hb); have n2_ := Aside0.mk (blk_below (g := gb123) (o := .cells #[.int .i64 t120, .int .i64 t121] 24 (0, 0)) (by (with_reducible repeat (first | refine blk_drewN ?_ _ | refine blk_drew ?_ | refine blk_alloc ?_ _)); exact BK123.out) hb); have n3_ := Aside0.mk (blk_below (g := gb131) (o := .cells #[.int .i64 t128, .int .i64 t129] 24 (0, 0)) (by (with_reducible repeat (first | refine blk_drewN ?_ _ | refine blk_drew ?_ | refine blk_alloc ?_ _)); exact BK131.out) hb); have n4_ := Aside0.mk (blk_below (g := gb135) (o := .cells #[.int .i64 t132, .int .i64 t133] 24 (0, 0)) (by (with_reducible repeat (first | refine blk_drewN ?_ _ | refine blk_drew ?_ | refine blk_alloc ?_ _)); exact BK135.out) hb); have n5_ := Aside0.mk (below_step (by repeat (first | (with_reducible first | exact HB.out | apply below_alloc | apply pw_below_drewN | apply below_drew1 | refine below_set ?_ GE118.out | refine below_set ?_ GE119.out | refine below_set ?_ GE123.out | refine below_set ?_ GE131.out | refine below_set ?_ GE135.out) | exact HB.out)) hb); have n6_ := Aside0.mk (hbox); have n7_ := Aside0.mk ((by rw [hg]; exact (below_size (by repeat (first | (with_reducible first | exact HB.out | apply below_alloc | apply pw_below_drewN | apply below_drew1 | refine below_set ?_ GE118.out | refine below_set ?_ GE119.out | refine below_set ?_ GE123.out | refine below_set ?_ GE131.out | refine below_set ?_ GE135.out) | exact HB.out))) : w.heap.size ≤ gb140)); have n8_ := Aside0.mk ((by rw [hg]; exact (below_size (by repeat (first | (with_reducible first | exact HB.out | apply below_alloc | apply pw_below_drewN | apply below_drew1 | refine below_set ?_ GE118.out | refine below_set ?_ GE119.out | refine below_set ?_ GE123.out | refine below_set ?_ GE131.out | refine below_set ?_ GE135.out) | exact HB.out))) : w.heap.size ≤ gb140)); have n9_ := Aside0.mk ((by rw [hg]; exact Nat.ne_of_lt (blk_lt (g := gb118) (o := .cells #[.int .i64 t113, .int .i64 t114] 24 (0, 0)) (by (with_reducible repeat (first | refine blk_drewN ?_ _ | refine blk_drew ?_ | refine blk_alloc ?_ _)); exact BK118.out)) : gb118 ≠ gb140)); have n10_ := Aside0.mk ((by rw [hg]; exact Nat.ne_of_gt (blk_lt (g := gb118) (o := .cells #[.int .i64 t113, .int .i64 t114] 24 (0, 0)) (by (with_reducible repeat (first | refine blk_drewN ?_ _ | refine blk_drew ?_ | refine blk_alloc ?_ _)); exact BK118.out)) : gb140 ≠ gb118)); have n11_ := Aside0.mk ((by rw [hg]; exact Nat.ne_of_lt (blk_lt (g := gb119) (o := .cells #[.int .i64 t115, .int .i64 t116] 24 (0, 0)) (by (with_reducible repeat (first | refine blk_drewN ?_ _ | refine blk_drew ?_ | refine blk_alloc ?_ _)); exact BK119.out)) : gb119 ≠ gb140)); have n12_ := Aside0.mk ((by rw [hg]; exact Nat.ne_of_gt (blk_lt (g := gb119) (o := .cells #[.int .i64 t115, .int .i64 t116] 24 (0, 0)) (by (with_reducible repeat (first | refine blk_drewN ?_ _ | refine blk_drew ?_ | refine blk_alloc ?_ _)); exact BK119.out)) : gb140 ≠ gb119)); have n13_ := Aside0.mk ((by rw [hg]; exact Nat.ne_of_lt (blk_lt (g := gb123) (o := .cells #[.int .i64 t120, .int .i64 t121] 24 (0, 0)) (by (with_reducible repeat (first | refine blk_drewN ?_ _ | refine blk_drew ?_ | refine blk_alloc ?_ _)); exact BK123.out)) : gb123 ≠ gb140)); have n14_ := Aside0.mk ((by rw [hg]; exact Nat.ne_of_gt (blk_lt (g := gb123) (o := .cells #[.int .i64 t120, .int .i64 t121] 24 (0, 0)) (by (with_reducible repeat (first | refine blk_drewN ?_ _ | refine blk_drew ?_ | refine blk_alloc ?_ _)); exact BK123.out)) : gb140 ≠ gb123)); have n15_ := Aside0.mk ((by rw [hg]; exact Nat.ne_of_lt (blk_lt (g := gb131) (o := .cells #[.int .i64 t128, .int .i64 t129] 24 (0, 0)) (by (with_reducible repeat (first | refine blk_drewN ?_ _ | refine blk_drew ?_ | refine blk_alloc ?_ _)); exact BK131.out)) : gb131 ≠ gb140)); have n16_ := Aside0.mk ((by rw [hg]; exact Nat.ne_of_gt (blk_lt (g := gb131) (o := .cells #[.int .i64 t128, .int .i64 t129] 24 (0, 0)) (by (with_reducible repeat (first | refine blk_drewN ?_ _ | refine blk_drew ?_ | refine blk_alloc ?_ _)); exact BK131.out)) : gb140 ≠ gb131)); have n17_ := Aside0.mk ((by rw [hg]; exact Nat.ne_of_lt (blk_lt (g := gb135) (o := .cells #[.int .i64 t132, .int .i64 t133] 24 (0, 0)) (by (with_reducible repeat (first | refine blk_drewN ?_ _ | refine blk_drew ?_ | refine blk_alloc ?_ _)); exact BK135.out)) : gb135 ≠ gb140)); have n18_ := Aside0.mk ((by rw [hg]; exact Nat.ne_of_gt (blk_lt (g := gb135) (o := .cells #[.int .i64 t132, .int .i64 t133] 24 (0, 0)) (by (with_reducible repeat (first | refine blk_drewN ?_ _ | refine blk_drew ?_ | refine blk_alloc ?_ _)); exact BK135.out)) : gb140 ≠ gb135)); clear BK118; clear BK119; clear BK123; clear BK131; clear BK135; clear HB; have BK118 := n0_; have BK119 := n1_; have BK123 := n2_; have BK131 := n3_; have BK135 := n4_; have HB := n5_; have BK140 := n6_; have GW140 := n7_; have GE140 := n8_; have NB118_140 := n9_; have NB140_118 := n10_; have NB119_140 := n11_; have NB140_119 := n12_; have NB123_140 := n13_; have NB140_123 := n14_; have NB131_140 := n15_; have NB140_131 := n16_; have NB135_140 := n17_; have NB140_135 := n18_; clear n0_ n1_ n2_ n3_ n4_ n5_ n6_ n7_ n8_ n9_ n10_ n11_ n12_ n13_ n14_ n15_ n16_ n17_ n18_; clear hb hbox hg; have hnb139 := NB140_118.out; have hnc139 := NB118_140.out; have hnb140 := NB140_119.out; have hnc140 := NB119_140.out; have hnb141 := NB140_123.out; have hnc141 := NB123_140.out; have hnb142 := NB140_131.out; have hnc142 := NB131_140.out; have hnb143 := NB140_135.out; have hnc143 := NB135_140.out; have hcz144_0 : w138.cell? ⟨gb140, 0, none⟩ = some (.int .i64 0) := (blk_cell BK140.out 0).trans rfl; have hcz144_1 : w138.cell? ⟨gb140, 1, none⟩ = some (.int .i64 0) := (blk_cell BK140.out 1).trans rfl; have hfz144_0 := blk_frozen BK140.out 0; have hfz144_1 := blk_frozen BK140.out 1))
                        have n0_ : Aside0 (((w138.setCell ⟨gb140, 0, none⟩ (.int .i64 t137)).setCell ⟨gb140, 1, none⟩ (.int .i64 t138)).heap[gb118]? = some (.cells #[.int .i64 t113, .int .i64 t114] 24 (0, 0))) := ⟨by (with_reducible repeat (first | refine blk_drewN ?_ _ | refine blk_drew ?_ | refine blk_alloc ?_ _)); refine blk_far ?_ NB118_140.out _; (with_reducible repeat (first | refine blk_drewN ?_ _ | refine blk_drew ?_ | refine blk_alloc ?_ _)); refine blk_far ?_ NB118_140.out _; (with_reducible repeat (first | refine blk_drewN ?_ _ | refine blk_drew ?_ | refine blk_alloc ?_ _)); exact BK118.out⟩
                        have n1_ : Aside0 (((w138.setCell ⟨gb140, 0, none⟩ (.int .i64 t137)).setCell ⟨gb140, 1, none⟩ (.int .i64 t138)).heap[gb119]? = some (.cells #[.int .i64 t115, .int .i64 t116] 24 (0, 0))) := ⟨by (with_reducible repeat (first | refine blk_drewN ?_ _ | refine blk_drew ?_ | refine blk_alloc ?_ _)); refine blk_far ?_ NB119_140.out _; (with_reducible repeat (first | refine blk_drewN ?_ _ | refine blk_drew ?_ | refine blk_alloc ?_ _)); refine blk_far ?_ NB119_140.out _; (with_reducible repeat (first | refine blk_drewN ?_ _ | refine blk_drew ?_ | refine blk_alloc ?_ _)); exact BK119.out⟩
                        have n2_ : Aside0 (((w138.setCell ⟨gb140, 0, none⟩ (.int .i64 t137)).setCell ⟨gb140, 1, none⟩ (.int .i64 t138)).heap[gb123]? = some (.cells #[.int .i64 t120, .int .i64 t121] 24 (0, 0))) := ⟨by (with_reducible repeat (first | refine blk_drewN ?_ _ | refine blk_drew ?_ | refine blk_alloc ?_ _)); refine blk_far ?_ NB123_140.out _; (with_reducible repeat (first | refine blk_drewN ?_ _ | refine blk_drew ?_ | refine blk_alloc ?_ _)); refine blk_far ?_ NB123_140.out _; (with_reducible repeat (first | refine blk_drewN ?_ _ | refine blk_drew ?_ | refine blk_alloc ?_ _)); exact BK123.out⟩
                        have n3_ : Aside0 (((w138.setCell ⟨gb140, 0, none⟩ (.int .i64 t137)).setCell ⟨gb140, 1, none⟩ (.int .i64 t138)).heap[gb131]? = some (.cells #[.int .i64 t128, .int .i64 t129] 24 (0, 0))) := ⟨by (with_reducible repeat (first | refine blk_drewN ?_ _ | refine blk_drew ?_ | refine blk_alloc ?_ _)); refine blk_far ?_ NB131_140.out _; (with_reducible repeat (first | refine blk_drewN ?_ _ | refine blk_drew ?_ | refine blk_alloc ?_ _)); refine blk_far ?_ NB131_140.out _; (with_reducible repeat (first | refine blk_drewN ?_ _ | refine blk_drew ?_ | refine blk_alloc ?_ _)); exact BK131.out⟩
                        have n4_ : Aside0 (((w138.setCell ⟨gb140, 0, none⟩ (.int .i64 t137)).setCell ⟨gb140, 1, none⟩ (.int .i64 t138)).heap[gb135]? = some (.cells #[.int .i64 t132, .int .i64 t133] 24 (0, 0))) := ⟨by (with_reducible repeat (first | refine blk_drewN ?_ _ | refine blk_drew ?_ | refine blk_alloc ?_ _)); refine blk_far ?_ NB135_140.out _; (with_reducible repeat (first | refine blk_drewN ?_ _ | refine blk_drew ?_ | refine blk_alloc ?_ _)); refine blk_far ?_ NB135_140.out _; (with_reducible repeat (first | refine blk_drewN ?_ _ | refine blk_drew ?_ | refine blk_alloc ?_ _)); exact BK135.out⟩
                        have n5_ : Aside0 (((w138.setCell ⟨gb140, 0, none⟩ (.int .i64 t137)).setCell ⟨gb140, 1, none⟩ (.int .i64 t138)).heap[gb140]? = some (.cells #[.int .i64 t137, .int .i64 t138] 24 (0, 0))) := ⟨by (with_reducible repeat (first | refine blk_drewN ?_ _ | refine blk_drew ?_ | refine blk_alloc ?_ _)); refine blk_put (cs := #[.int .i64 t137, .int .i64 0]) ?_ 1 _ rfl; (with_reducible repeat (first | refine blk_drewN ?_ _ | refine blk_drew ?_ | refine blk_alloc ?_ _)); refine blk_put (cs := #[.int .i64 0, .int .i64 0]) ?_ 0 _ rfl; (with_reducible repeat (first | refine blk_drewN ?_ _ | refine blk_drew ?_ | refine blk_alloc ?_ _)); exact BK140.out⟩
                        have n6_ : Aside0 (Below w.heap.size w ((w138.setCell ⟨gb140, 0, none⟩ (.int .i64 t137)).setCell ⟨gb140, 1, none⟩ (.int .i64 t138))) := ⟨by repeat (first | (with_reducible first | exact HB.out | apply below_alloc | apply pw_below_drewN | apply below_drew1 | refine below_set ?_ GE118.out | refine below_set ?_ GE119.out | refine below_set ?_ GE123.out | refine below_set ?_ GE131.out | refine below_set ?_ GE135.out | refine below_set ?_ GE140.out) | exact HB.out)⟩
                        (try clear BK118)
                        (try clear BK119)
                        (try clear BK123)
                        (try clear BK131)
                        (try clear BK135)
                        (try clear BK140)
                        (try clear HB)
                        generalize ((w138.setCell ⟨gb140, 0, none⟩ (.int .i64 t137)).setCell ⟨gb140, 1, none⟩ (.int .i64 t138)) = w145 at n0_ n1_ n2_ n3_ n4_ n5_ n6_ ⊢
                        have BK118 := n0_
                        have BK119 := n1_
                        have BK123 := n2_
                        have BK131 := n3_
                        have BK135 := n4_
                        have BK140 := n5_
                        have HB := n6_
                        clear n0_ n1_ n2_ n3_ n4_ n5_ n6_
                        have n0_ := Aside0.mk (blk_drew BK118.out)
                        have n1_ := Aside0.mk (blk_drew BK119.out)
                        have n2_ := Aside0.mk (blk_drew BK123.out)
                        have n3_ := Aside0.mk (blk_drew BK131.out)
                        have n4_ := Aside0.mk (blk_drew BK135.out)
                        have n5_ := Aside0.mk (blk_drew BK140.out)
                        have n6_ := Aside0.mk (below_drew1 HB.out)
                        clear BK118
                        clear BK119
                        clear BK123
                        clear BK131
                        clear BK135
                        clear BK140
                        clear HB
                        have BK118 := n0_
                        have BK119 := n1_
                        have BK123 := n2_
                        have BK131 := n3_
                        have BK135 := n4_
                        have BK140 := n5_
                        have HB := n6_
                        clear n0_ n1_ n2_ n3_ n4_ n5_ n6_
                        refine start_ (n := 13) (S := fun w' => w'.cell? ⟨gb140, 0, none⟩ = some (.int .i64 t137) ∧ w'.cell? ⟨gb140, 1, none⟩ = some (.int .i64 t138)) (ds := []) #[false, false, false, false, false, false, false, false, false, false, false, false, false] (by kernel_rfl) rfl rfl ⟨(blk_cell BK140.out 0).trans rfl, (blk_cell BK140.out 1).trans rfl⟩ (fun hHeld => ?_); refine with_tabW ashlarlaw01_NumOrder.tab14 ashlarlaw01_NumOrder.bits14 (fun HT_ HW_ => ?_)
                        generalize w145.drew = w146 at BK118 BK119 BK123 BK131 BK135 BK140 HB hHeld ⊢
                        refine pure_ (i := 0) (N := some 111) (v := ?_) (a' := ?_) #[true, false, false, false, false, false, false, false, false, false, false, false, false] rfl rfl (any_of HT_.out (by kernel_rfl)) (fun _ _ _ h => h) (Or.inl ⟨by rfl, ?_⟩) ?_ ?_
                        rotate_left
                        · intro w'
                          go_simp
                          with_reducible rfl
                        rotate_left
                        · simp only [Act.put, List.setIfInBounds_toArray, List.set_cons_zero, List.set_cons_succ, i64_w, i32_w]
                          rfl
                        refine pure_ (i := 1) (N := some 112) (v := ?_) (a' := ?_) #[true, true, false, false, false, false, false, false, false, false, false, false, false] rfl rfl (any_of HT_.out (by kernel_rfl)) (fun _ _ _ h => h) (Or.inl ⟨by rfl, ?_⟩) ?_ ?_
                        rotate_left
                        · intro w'
                          go_simp
                          with_reducible rfl
                        rotate_left
                        · simp only [Act.put, List.setIfInBounds_toArray, List.set_cons_zero, List.set_cons_succ, i64_w, i32_w]
                          rfl
                        refine pure_ (i := 2) (N := some 113) (v := ?_) (a' := ?_) #[true, true, true, false, false, false, false, false, false, false, false, false, false] rfl rfl (any_of HT_.out (by kernel_rfl)) (fun _ _ _ h => h) (Or.inl ⟨by rfl, ?_⟩) ?_ ?_
                        rotate_left
                        · intro w'
                          go_simp
                          with_reducible rfl
                        rotate_left
                        · simp only [Act.put, List.setIfInBounds_toArray, List.set_cons_zero, List.set_cons_succ, i64_w, i32_w]
                          rfl
                        refine pure_ (i := 3) (N := some 114) (v := ?_) (a' := ?_) #[true, true, true, true, false, false, false, false, false, false, false, false, false] rfl rfl (any_of HT_.out (by kernel_rfl)) (fun _ _ _ h => h) (Or.inl ⟨by rfl, ?_⟩) ?_ ?_
                        rotate_left
                        · intro w'
                          go_simp
                          with_reducible rfl
                        rotate_left
                        · simp only [Act.put, List.setIfInBounds_toArray, List.set_cons_zero, List.set_cons_succ, i64_w, i32_w]
                          rfl
                        refine pure_ (i := 4) (N := some 115) (v := ?_) (a' := ?_) #[true, true, true, true, true, false, false, false, false, false, false, false, false] rfl rfl (any_of HT_.out (by kernel_rfl)) (fun _ _ _ h => h) (Or.inl ⟨by rfl, ?_⟩) ?_ ?_
                        rotate_left
                        · intro w'
                          go_simp
                          with_reducible rfl
                        rotate_left
                        · simp only [Act.put, List.setIfInBounds_toArray, List.set_cons_zero, List.set_cons_succ, i64_w, i32_w]
                          rfl
                        refine pure_ (i := 8) (N := some 119) (v := ?_) (a' := ?_) #[true, true, true, true, true, false, false, false, true, false, false, false, false] rfl rfl (any_of HT_.out (by kernel_rfl)) (fun _ _ _ h => h) (Or.inl ⟨by rfl, ?_⟩) ?_ ?_
                        rotate_left
                        · intro w'
                          go_simp
                          with_reducible rfl
                        rotate_left
                        · simp only [Act.put, List.setIfInBounds_toArray, List.set_cons_zero, List.set_cons_succ, i64_w, i32_w]
                          rfl
                        refine take_ (i := 5) (N := some 116) (v := ?_) (a' := ?_) #[true, true, true, true, true, true, false, false, true, false, false, false, false] rfl rfl (take_ofW HT_.out HW_.out (by kernel_rfl)) (fun _ _ _ h => h) (Or.inl ⟨by rfl, ?_⟩) hHeld ?_ ?_
                        rotate_left
                        · rintro w' ⟨s0, s1⟩
                          go_simp
                          with_reducible rfl
                        rotate_left
                        · simp only [Act.put, List.setIfInBounds_toArray, List.set_cons_zero, List.set_cons_succ, i64_w, i32_w]
                          rfl
                        refine one_ (i := 6) (N := some 117) #[true, true, true, true, true, true, true, false, true, false, false, false, false] rfl rfl (one_of HT_.out (by kernel_rfl)) (by decide) (fun K hK => ?_)
                        refine goes_ Try.func18 (by kernel_rfl) rfl #[.int .i64 0] (by rfl) rfl rfl (by (try simp only [List.map_toArray, List.map_cons, List.map_nil]); first | done | rfl | (simp only [List.length_drop, List.length_take]; rfl)) ?_
                        with_reducible refine (num_Whole.calls 0 t141 t142 _ A126.out).mono ?_
                        rintro e w147 ⟨rfl, hb⟩
                        refine ⟨_, rfl, ?_⟩
                        have n0_ := Aside0.mk (blk_below (g := gb118) (o := .cells #[.int .i64 t113, .int .i64 t114] 24 (0, 0)) (by (with_reducible repeat (first | refine blk_drewN ?_ _ | refine blk_drew ?_ | refine blk_alloc ?_ _)); exact BK118.out) hb)
                        have n1_ := Aside0.mk (blk_below (g := gb119) (o := .cells #[.int .i64 t115, .int .i64 t116] 24 (0, 0)) (by (with_reducible repeat (first | refine blk_drewN ?_ _ | refine blk_drew ?_ | refine blk_alloc ?_ _)); exact BK119.out) hb)
                        have n2_ := Aside0.mk (blk_below (g := gb123) (o := .cells #[.int .i64 t120, .int .i64 t121] 24 (0, 0)) (by (with_reducible repeat (first | refine blk_drewN ?_ _ | refine blk_drew ?_ | refine blk_alloc ?_ _)); exact BK123.out) hb)
                        have n3_ := Aside0.mk (blk_below (g := gb131) (o := .cells #[.int .i64 t128, .int .i64 t129] 24 (0, 0)) (by (with_reducible repeat (first | refine blk_drewN ?_ _ | refine blk_drew ?_ | refine blk_alloc ?_ _)); exact BK131.out) hb)
                        have n4_ := Aside0.mk (blk_below (g := gb135) (o := .cells #[.int .i64 t132, .int .i64 t133] 24 (0, 0)) (by (with_reducible repeat (first | refine blk_drewN ?_ _ | refine blk_drew ?_ | refine blk_alloc ?_ _)); exact BK135.out) hb)
                        have n5_ := Aside0.mk (blk_below (g := gb140) (o := .cells #[.int .i64 t137, .int .i64 t138] 24 (0, 0)) (by (with_reducible repeat (first | refine blk_drewN ?_ _ | refine blk_drew ?_ | refine blk_alloc ?_ _)); exact BK140.out) hb)
                        have n6_ := Aside0.mk (below_step (by repeat (first | (with_reducible first | exact HB.out | apply below_alloc | apply pw_below_drewN | apply below_drew1 | refine below_set ?_ GE118.out | refine below_set ?_ GE119.out | refine below_set ?_ GE123.out | refine below_set ?_ GE131.out | refine below_set ?_ GE135.out | refine below_set ?_ GE140.out) | exact HB.out)) hb)
                        clear BK118
                        clear BK119
                        clear BK123
                        clear BK131
                        clear BK135
                        clear BK140
                        clear HB
                        have BK118 := n0_
                        have BK119 := n1_
                        have BK123 := n2_
                        have BK131 := n3_
                        have BK135 := n4_
                        have BK140 := n5_
                        have HB := n6_
                        clear n0_ n1_ n2_ n3_ n4_ n5_ n6_
                        (try clear hb)
                        (try clear hb2)
                        (try clear hk)
                        (try clear hi)
                        refine hK.out _ _ ⟨(blk_cell BK140.out 0).trans rfl, (blk_cell BK140.out 1).trans rfl⟩ (fun hHeld => ?_)
                        clear hK K
                        refine norm_ (a' := ?_) ?_ ?_
                        rotate_left
                        · show Act.put _ (some 117) _ = _
                          simp only [Act.put, List.setIfInBounds_toArray, List.set_cons_zero, List.set_cons_succ, i64_w, i32_w]
                          rfl
                        refine one_ (i := 7) (N := some 118) #[true, true, true, true, true, true, true, true, true, false, false, false, false] rfl rfl (one_of HT_.out (by kernel_rfl)) (by decide) (fun K hK => ?_)
                        refine goes_ Try.func21 (by kernel_rfl) rfl #[.agg #[.int .i64 t137, .int .i64 t138], .agg #[.int .i64 t141, .int .i64 t142]] (by rfl) rfl rfl (by (try simp only [List.map_toArray, List.map_cons, List.map_nil]); first | done | rfl | (simp only [List.length_drop, List.length_take]; rfl)) ?_
                        with_reducible refine (num_Rat_Cmp.calls t137 t138 t141 t142 t143 _ A127.out).mono ?_
                        rintro e w148 ⟨rfl, hb⟩
                        refine ⟨_, rfl, ?_⟩
                        have n0_ := Aside0.mk (blk_below (g := gb118) (o := .cells #[.int .i64 t113, .int .i64 t114] 24 (0, 0)) (by (with_reducible repeat (first | refine blk_drewN ?_ _ | refine blk_drew ?_ | refine blk_alloc ?_ _)); exact BK118.out) hb)
                        have n1_ := Aside0.mk (blk_below (g := gb119) (o := .cells #[.int .i64 t115, .int .i64 t116] 24 (0, 0)) (by (with_reducible repeat (first | refine blk_drewN ?_ _ | refine blk_drew ?_ | refine blk_alloc ?_ _)); exact BK119.out) hb)
                        have n2_ := Aside0.mk (blk_below (g := gb123) (o := .cells #[.int .i64 t120, .int .i64 t121] 24 (0, 0)) (by (with_reducible repeat (first | refine blk_drewN ?_ _ | refine blk_drew ?_ | refine blk_alloc ?_ _)); exact BK123.out) hb)
                        have n3_ := Aside0.mk (blk_below (g := gb131) (o := .cells #[.int .i64 t128, .int .i64 t129] 24 (0, 0)) (by (with_reducible repeat (first | refine blk_drewN ?_ _ | refine blk_drew ?_ | refine blk_alloc ?_ _)); exact BK131.out) hb)
                        have n4_ := Aside0.mk (blk_below (g := gb135) (o := .cells #[.int .i64 t132, .int .i64 t133] 24 (0, 0)) (by (with_reducible repeat (first | refine blk_drewN ?_ _ | refine blk_drew ?_ | refine blk_alloc ?_ _)); exact BK135.out) hb)
                        have n5_ := Aside0.mk (blk_below (g := gb140) (o := .cells #[.int .i64 t137, .int .i64 t138] 24 (0, 0)) (by (with_reducible repeat (first | refine blk_drewN ?_ _ | refine blk_drew ?_ | refine blk_alloc ?_ _)); exact BK140.out) hb)
                        have n6_ := Aside0.mk (below_step (by repeat (first | (with_reducible first | exact HB.out | apply below_alloc | apply pw_below_drewN | apply below_drew1 | refine below_set ?_ GE118.out | refine below_set ?_ GE119.out | refine below_set ?_ GE123.out | refine below_set ?_ GE131.out | refine below_set ?_ GE135.out | refine below_set ?_ GE140.out) | exact HB.out)) hb)
                        clear BK118
                        clear BK119
                        clear BK123
                        clear BK131
                        clear BK135
                        clear BK140
                        clear HB
                        have BK118 := n0_
                        have BK119 := n1_
                        have BK123 := n2_
                        have BK131 := n3_
                        have BK135 := n4_
                        have BK140 := n5_
                        have HB := n6_
                        clear n0_ n1_ n2_ n3_ n4_ n5_ n6_
                        (try clear hb)
                        (try clear hb2)
                        (try clear hk)
                        (try clear hi)
                        refine hK.out _ _ ⟨(blk_cell BK140.out 0).trans rfl, (blk_cell BK140.out 1).trans rfl⟩ (fun hHeld => ?_)
                        clear hK K
                        refine norm_ (a' := ?_) ?_ ?_
                        rotate_left
                        · show Act.put _ (some 118) _ = _
                          simp only [Act.put, List.setIfInBounds_toArray, List.set_cons_zero, List.set_cons_succ, i64_w, i32_w]
                          rfl
                        refine pure_ (i := 9) (N := some 120) (v := ?_) (a' := ?_) #[true, true, true, true, true, true, true, true, true, true, false, false, false] rfl rfl (any_of HT_.out (by kernel_rfl)) (fun _ _ _ h => h) (Or.inl ⟨by rfl, ?_⟩) ?_ ?_
                        rotate_left
                        · intro w'
                          go_simp
                          with_reducible rfl
                        rotate_left
                        · simp only [Act.put, List.setIfInBounds_toArray, List.set_cons_zero, List.set_cons_succ, i64_w, i32_w]
                          rfl
                        refine pure_ (i := 10) (N := some 121) (v := ?_) (a' := ?_) #[true, true, true, true, true, true, true, true, true, true, true, false, false] rfl rfl (any_of HT_.out (by kernel_rfl)) (fun _ _ _ h => h) (Or.inl ⟨by rfl, ?_⟩) ?_ ?_
                        rotate_left
                        · intro w'
                          go_simp
                          with_reducible rfl
                        rotate_left
                        · simp only [Act.put, List.setIfInBounds_toArray, List.set_cons_zero, List.set_cons_succ, i64_w, i32_w]
                          rfl
                        refine pure_ (i := 11) (N := some 122) (v := ?_) (a' := ?_) #[true, true, true, true, true, true, true, true, true, true, true, true, false] rfl rfl (any_of HT_.out (by kernel_rfl)) (fun _ _ _ h => h) (Or.inl ⟨by rfl, ?_⟩) ?_ ?_
                        rotate_left
                        · intro w'
                          go_simp
                          with_reducible rfl
                        rotate_left
                        · simp only [Act.put, List.setIfInBounds_toArray, List.set_cons_zero, List.set_cons_succ, i64_w, i32_w]
                          rfl
                        refine pure_ (i := 12) (N := some 12) (v := ?_) (a' := ?_) #[true, true, true, true, true, true, true, true, true, true, true, true, true] rfl rfl (any_of HT_.out (by kernel_rfl)) (fun _ _ _ h => h) (Or.inl ⟨by rfl, ?_⟩) ?_ ?_
                        rotate_left
                        · intro w'
                          go_simp
                          with_reducible rfl
                        rotate_left
                        · simp only [Act.put, List.setIfInBounds_toArray, List.set_cons_zero, List.set_cons_succ, i64_w, i32_w]
                          rfl
                        refine done_ (done_of HT_.out (by kernel_rfl)) ?_
                        try go_wp2
                        go_ret
                        exact ⟨by first | rfl | (simp [errW_none, errW_some] <;> rfl) | (simp [*, errW_none, errW_some] <;> rfl), by repeat (first | (with_reducible first | exact HB.out | apply below_alloc | apply pw_below_drewN | apply below_drew1 | refine below_set ?_ GE118.out | refine below_set ?_ GE119.out | refine below_set ?_ GE123.out | refine below_set ?_ GE131.out | refine below_set ?_ GE135.out | refine below_set ?_ GE140.out) | exact HB.out)⟩
                      · replace c125 := Bool.eq_false_iff.mpr c125
                        subst c125
                        have H1 : (some true) = some r := by rw [if_neg (show ¬ (false = true) by decide)] at H; exact H
                        clear H
                        have H := H1
                        clear H1
                        obtain rfl := Option.some.inj H
                        have hnb149 := NB118_119.out
                        have hnc149 := NB119_118.out
                        have hnb150 := NB118_123.out
                        have hnc150 := NB123_118.out
                        have hnb151 := NB118_131.out
                        have hnc151 := NB131_118.out
                        have hnb152 := NB118_135.out
                        have hnc152 := NB135_118.out
                        have hcz153_0 : wc.cell? ⟨gb118, 0, none⟩ = some (.int .i64 t113) := (blk_cell BK118.out 0).trans rfl
                        have hcz153_1 : wc.cell? ⟨gb118, 1, none⟩ = some (.int .i64 t114) := (blk_cell BK118.out 1).trans rfl
                        have hfz153_0 := blk_frozen BK118.out 0
                        have hfz153_1 := blk_frozen BK118.out 1
                        have hnb154 := NB119_123.out
                        have hnc154 := NB123_119.out
                        have hnb155 := NB119_131.out
                        have hnc155 := NB131_119.out
                        have hnb156 := NB119_135.out
                        have hnc156 := NB135_119.out
                        have hcz157_0 : wc.cell? ⟨gb119, 0, none⟩ = some (.int .i64 t115) := (blk_cell BK119.out 0).trans rfl
                        have hcz157_1 : wc.cell? ⟨gb119, 1, none⟩ = some (.int .i64 t116) := (blk_cell BK119.out 1).trans rfl
                        have hfz157_0 := blk_frozen BK119.out 0
                        have hfz157_1 := blk_frozen BK119.out 1
                        try go_wp2_with (first | ((with_reducible refine gate_callee (f := 24) rfl ?_); refine goesL_ (some 108) rfl rfl Try.func24 (by kernel_rfl) rfl #[.agg #[.int .i64 t113, .int .i64 t114], .agg #[.int .i64 t115, .int .i64 t116]] rfl (by (try simp only [List.map_toArray, List.map_cons, List.map_nil]); first | done | rfl | (simp only [List.length_drop, List.length_take]; rfl)) ?_; (with_reducible refine (num_Rat_Minus.calls t113 t114 t115 t116 t137 t138 false _ A123.out).mono ?_); rintro e w158 ⟨rfl, hb⟩; refine ⟨_, rfl, ?_⟩; have n0_ := Aside0.mk (blk_below (g := gb118) (o := .cells #[.int .i64 t113, .int .i64 t114] 24 (0, 0)) (by (with_reducible repeat (first | refine blk_drewN ?_ _ | refine blk_drew ?_ | refine blk_alloc ?_ _)); exact BK118.out) hb); have n1_ := Aside0.mk (blk_below (g := gb119) (o := .cells #[.int .i64 t115, .int .i64 t116] 24 (0, 0)) (by (with_reducible repeat (first | refine blk_drewN ?_ _ | refine blk_drew ?_ | refine blk_alloc ?_ _)); exact BK119.out) hb); have n2_ := Aside0.mk (blk_below (g := gb123) (o := .cells #[.int .i64 t120, .int .i64 t121] 24 (0, 0)) (by (with_reducible repeat (first | refine blk_drewN ?_ _ | refine blk_drew ?_ | refine blk_alloc ?_ _)); exact BK123.out) hb); have n3_ := Aside0.mk (blk_below (g := gb131) (o := .cells #[.int .i64 t128, .int .i64 t129] 24 (0, 0)) (by (with_reducible repeat (first | refine blk_drewN ?_ _ | refine blk_drew ?_ | refine blk_alloc ?_ _)); exact BK131.out) hb); have n4_ := Aside0.mk (blk_below (g := gb135) (o := .cells #[.int .i64 t132, .int .i64 t133] 24 (0, 0)) (by (with_reducible repeat (first | refine blk_drewN ?_ _ | refine blk_drew ?_ | refine blk_alloc ?_ _)); exact BK135.out) hb); have n5_ := Aside0.mk (below_step (by repeat (first | (with_reducible first | exact HB.out | apply below_alloc | apply pw_below_drewN | apply below_drew1 | refine below_set ?_ GE118.out | refine below_set ?_ GE119.out | refine below_set ?_ GE123.out | refine below_set ?_ GE131.out | refine below_set ?_ GE135.out) | exact HB.out)) hb); clear BK118; clear BK119; clear BK123; clear BK131; clear BK135; clear HB; have BK118 := n0_; have BK119 := n1_; have BK123 := n2_; have BK131 := n3_; have BK135 := n4_; have HB := n5_; clear n0_ n1_ n2_ n3_ n4_ n5_; (try clear hb); (try clear hb2); (try clear hk); (try clear hi)) | ((with_reducible refine gate_dst (N := 24) rfl ?_); refine box_event ?hg (N := 24) ?hd (cs := #[.int .i64 0, .int .i64 0]) (t := 24) ?hr ?_; (case hd => rfl); (case hg => rfl); (case hr => first | (go_simp; done) | (go_simp; rfl)); intro gb140 hg w159 hbox hb; have n0_ := Aside0.mk (blk_below (g := gb118) (o := .cells #[.int .i64 t113, .int .i64 t114] 24 (0, 0)) (by (with_reducible repeat (first | refine blk_drewN ?_ _ | refine blk_drew ?_ | refine blk_alloc ?_ _)); exact BK118.out) hb); have n1_ := Aside0.mk (blk_below (g := gb119) (o := .cells #[.int .i64 t115, .int .i64 t116] 24 (0, 0)) (by (with_reducible repeat (first | refine blk_drewN ?_ _ | refine blk_drew ?_ | refine blk_alloc ?_ _)); exact BK119.out) hb); have n2_ := Aside0.mk (blk_below (g := gb123) (o := .cells #[.int .i64 t120, .int .i64 t121] 24 (0, 0)) (by (with_reducible repeat (first | refine blk_drewN ?_ _ | refine blk_drew ?_ | refine blk_alloc ?_ _)); exact BK123.out) hb); have n3_ := Aside0.mk (blk_below (g := gb131) (o := .cells #[.int .i64 t128, .int .i64 t129] 24 (0, 0)) (by (with_reducible repeat (first | refine blk_drewN ?_ _ | refine blk_drew ?_ | refine blk_alloc ?_ _)); exact BK131.out) hb); have n4_ := Aside0.mk (blk_below (g := gb135) (o := .cells #[.int .i64 t132, .int .i64 t133] 24 (0, 0)) (by (with_reducible repeat (first | refine blk_drewN ?_ _ | refine blk_drew ?_ | refine blk_alloc ?_ _)); exact BK135.out) hb); have n5_ := Aside0.mk (below_step (by repeat (first | (with_reducible first | exact HB.out | apply below_alloc | apply pw_below_drewN | apply below_drew1 | refine below_set ?_ GE118.out | refine below_set ?_ GE119.out | refine below_set ?_ GE123.out | refine below_set ?_ GE131.out | refine below_set ?_ GE135.out) | exact HB.out)) hb); have n6_ := Aside0.mk (hbox); have n7_ := Aside0.mk ((by rw [hg]; exact (below_size (by repeat (first | (with_reducible first | exact HB.out | apply below_alloc | apply pw_below_drewN | apply below_drew1 | refine below_set ?_ GE118.out | refine below_set ?_ GE119.out | refine below_set ?_ GE123.out | refine below_set ?_ GE131.out | refine below_set ?_ GE135.out) | exact HB.out))) : w.heap.size ≤ gb140)); have n8_ := Aside0.mk ((by rw [hg]; exact (below_size (by repeat (first | (with_reducible first | exact HB.out | apply below_alloc | apply pw_below_drewN | apply below_drew1 | refine below_set ?_ GE118.out | refine below_set ?_ GE119.out | refine below_set ?_ GE123.out | refine below_set ?_ GE131.out | refine below_set ?_ GE135.out) | exact HB.out))) : w.heap.size ≤ gb140)); have n9_ := Aside0.mk ((by rw [hg]; exact Nat.ne_of_lt (blk_lt (g := gb118) (o := .cells #[.int .i64 t113, .int .i64 t114] 24 (0, 0)) (by (with_reducible repeat (first | refine blk_drewN ?_ _ | refine blk_drew ?_ | refine blk_alloc ?_ _)); exact BK118.out)) : gb118 ≠ gb140)); have n10_ := Aside0.mk ((by rw [hg]; exact Nat.ne_of_gt (blk_lt (g := gb118) (o := .cells #[.int .i64 t113, .int .i64 t114] 24 (0, 0)) (by (with_reducible repeat (first | refine blk_drewN ?_ _ | refine blk_drew ?_ | refine blk_alloc ?_ _)); exact BK118.out)) : gb140 ≠ gb118)); have n11_ := Aside0.mk ((by rw [hg]; exact Nat.ne_of_lt (blk_lt (g := gb119) (o := .cells #[.int .i64 t115, .int .i64 t116] 24 (0, 0)) (by (with_reducible repeat (first | refine blk_drewN ?_ _ | refine blk_drew ?_ | refine blk_alloc ?_ _)); exact BK119.out)) : gb119 ≠ gb140)); have n12_ := Aside0.mk ((by rw [hg]; exact Nat.ne_of_gt (blk_lt (g := gb119) (o := .cells #[.int .i64 t115, .int .i64 t116] 24 (0, 0)) (by (with_reducible repeat (first | refine blk_drewN ?_ _ | refine blk_drew ?_ | refine blk_alloc ?_ _)); exact BK119.out)) : gb140 ≠ gb119)); have n13_ := Aside0.mk ((by rw [hg]; exact Nat.ne_of_lt (blk_lt (g := gb123) (o := .cells #[.int .i64 t120, .int .i64 t121] 24 (0, 0)) (by (with_reducible repeat (first | refine blk_drewN ?_ _ | refine blk_drew ?_ | refine blk_alloc ?_ _)); exact BK123.out)) : gb123 ≠ gb140)); have n14_ := Aside0.mk ((by rw [hg]; exact Nat.ne_of_gt (blk_lt (g := gb123) (o := .cells #[.int .i64 t120, .int .i64 t121] 24 (0, 0)) (by (with_reducible repeat (first | refine blk_drewN ?_ _ | refine blk_drew ?_ | refine blk_alloc ?_ _)); exact BK123.out)) : gb140 ≠ gb123)); have n15_ := Aside0.mk ((by rw [hg]; exact Nat.ne_of_lt (blk_lt (g := gb131) (o := .cells #[.int .i64 t128, .int .i64 t129] 24 (0, 0)) (by (with_reducible repeat (first | refine blk_drewN ?_ _ | refine blk_drew ?_ | refine blk_alloc ?_ _)); exact BK131.out)) : gb131 ≠ gb140)); have n16_ := Aside0.mk ((by rw [hg]; exact Nat.ne_of_gt (blk_lt (g := gb131) (o := .cells #[.int .i64 t128, .int .i64 t129] 24 (0, 0)) (by (with_reducible repeat (first | refine blk_drewN ?_ _ | refine blk_drew ?_ | refine blk_alloc ?_ _)); exact BK131.out)) : gb140 ≠ gb131)); have n17_ := Aside0.mk ((by rw [hg]; exact Nat.ne_of_lt (blk_lt (g := gb135) (o := .cells #[.int .i64 t132, .int .i64 t133] 24 (0, 0)) (by (with_reducible repeat (first | refine blk_drewN ?_ _ | refine blk_drew ?_ | refine blk_alloc ?_ _)); exact BK135.out)) : gb135 ≠ gb140)); have n18_ := Aside0.mk ((by rw [hg]; exact Nat.ne_of_gt (blk_lt (g := gb135) (o := .cells #[.int .i64 t132, .int .i64 t133] 24 (0, 0)) (by (with_reducible repeat (first | refine blk_drewN ?_ _ | refine blk_drew ?_ | refine blk_alloc ?_ _)); exact BK135.out)) : gb140 ≠ gb135)); clear BK118; clear BK119; clear BK123; clear BK131; clear BK135; clear HB; have BK118 := n0_; have BK119 := n1_; have BK123 := n2_; have BK131 := n3_; have BK135 := n4_; have HB := n5_; have BK140 := n6_; have GW140 := n7_; have GE140 := n8_; have NB118_140 := n9_; have NB140_118 := n10_; have NB119_140 := n11_; have NB140_119 := n12_; have NB123_140 := n13_; have NB140_123 := n14_; have NB131_140 := n15_; have NB140_131 := n16_; have NB135_140 := n17_; have NB140_135 := n18_; clear n0_ n1_ n2_ n3_ n4_ n5_ n6_ n7_ n8_ n9_ n10_ n11_ n12_ n13_ n14_ n15_ n16_ n17_ n18_; clear hb hbox hg; have hnb160 := NB140_118.out; have hnc160 := NB118_140.out; have hnb161 := NB140_119.out; have hnc161 := NB119_140.out; have hnb162 := NB140_123.out; have hnc162 := NB123_140.out; have hnb163 := NB140_131.out; have hnc163 := NB131_140.out; have hnb164 := NB140_135.out; have hnc164 := NB135_140.out; have hcz165_0 : w159.cell? ⟨gb140, 0, none⟩ = some (.int .i64 0) := (blk_cell BK140.out 0).trans rfl; have hcz165_1 : w159.cell? ⟨gb140, 1, none⟩ = some (.int .i64 0) := (blk_cell BK140.out 1).trans rfl; have hfz165_0 := blk_frozen BK140.out 0; have hfz165_1 := blk_frozen BK140.out 1))
                        have n0_ : Aside0 (((w159.setCell ⟨gb140, 0, none⟩ (.int .i64 t137)).setCell ⟨gb140, 1, none⟩ (.int .i64 t138)).heap[gb118]? = some (.cells #[.int .i64 t113, .int .i64 t114] 24 (0, 0))) := ⟨by (with_reducible repeat (first | refine blk_drewN ?_ _ | refine blk_drew ?_ | refine blk_alloc ?_ _)); refine blk_far ?_ NB118_140.out _; (with_reducible repeat (first | refine blk_drewN ?_ _ | refine blk_drew ?_ | refine blk_alloc ?_ _)); refine blk_far ?_ NB118_140.out _; (with_reducible repeat (first | refine blk_drewN ?_ _ | refine blk_drew ?_ | refine blk_alloc ?_ _)); exact BK118.out⟩
                        have n1_ : Aside0 (((w159.setCell ⟨gb140, 0, none⟩ (.int .i64 t137)).setCell ⟨gb140, 1, none⟩ (.int .i64 t138)).heap[gb119]? = some (.cells #[.int .i64 t115, .int .i64 t116] 24 (0, 0))) := ⟨by (with_reducible repeat (first | refine blk_drewN ?_ _ | refine blk_drew ?_ | refine blk_alloc ?_ _)); refine blk_far ?_ NB119_140.out _; (with_reducible repeat (first | refine blk_drewN ?_ _ | refine blk_drew ?_ | refine blk_alloc ?_ _)); refine blk_far ?_ NB119_140.out _; (with_reducible repeat (first | refine blk_drewN ?_ _ | refine blk_drew ?_ | refine blk_alloc ?_ _)); exact BK119.out⟩
                        have n2_ : Aside0 (((w159.setCell ⟨gb140, 0, none⟩ (.int .i64 t137)).setCell ⟨gb140, 1, none⟩ (.int .i64 t138)).heap[gb123]? = some (.cells #[.int .i64 t120, .int .i64 t121] 24 (0, 0))) := ⟨by (with_reducible repeat (first | refine blk_drewN ?_ _ | refine blk_drew ?_ | refine blk_alloc ?_ _)); refine blk_far ?_ NB123_140.out _; (with_reducible repeat (first | refine blk_drewN ?_ _ | refine blk_drew ?_ | refine blk_alloc ?_ _)); refine blk_far ?_ NB123_140.out _; (with_reducible repeat (first | refine blk_drewN ?_ _ | refine blk_drew ?_ | refine blk_alloc ?_ _)); exact BK123.out⟩
                        have n3_ : Aside0 (((w159.setCell ⟨gb140, 0, none⟩ (.int .i64 t137)).setCell ⟨gb140, 1, none⟩ (.int .i64 t138)).heap[gb131]? = some (.cells #[.int .i64 t128, .int .i64 t129] 24 (0, 0))) := ⟨by (with_reducible repeat (first | refine blk_drewN ?_ _ | refine blk_drew ?_ | refine blk_alloc ?_ _)); refine blk_far ?_ NB131_140.out _; (with_reducible repeat (first | refine blk_drewN ?_ _ | refine blk_drew ?_ | refine blk_alloc ?_ _)); refine blk_far ?_ NB131_140.out _; (with_reducible repeat (first | refine blk_drewN ?_ _ | refine blk_drew ?_ | refine blk_alloc ?_ _)); exact BK131.out⟩
                        have n4_ : Aside0 (((w159.setCell ⟨gb140, 0, none⟩ (.int .i64 t137)).setCell ⟨gb140, 1, none⟩ (.int .i64 t138)).heap[gb135]? = some (.cells #[.int .i64 t132, .int .i64 t133] 24 (0, 0))) := ⟨by (with_reducible repeat (first | refine blk_drewN ?_ _ | refine blk_drew ?_ | refine blk_alloc ?_ _)); refine blk_far ?_ NB135_140.out _; (with_reducible repeat (first | refine blk_drewN ?_ _ | refine blk_drew ?_ | refine blk_alloc ?_ _)); refine blk_far ?_ NB135_140.out _; (with_reducible repeat (first | refine blk_drewN ?_ _ | refine blk_drew ?_ | refine blk_alloc ?_ _)); exact BK135.out⟩
                        have n5_ : Aside0 (((w159.setCell ⟨gb140, 0, none⟩ (.int .i64 t137)).setCell ⟨gb140, 1, none⟩ (.int .i64 t138)).heap[gb140]? = some (.cells #[.int .i64 t137, .int .i64 t138] 24 (0, 0))) := ⟨by (with_reducible repeat (first | refine blk_drewN ?_ _ | refine blk_drew ?_ | refine blk_alloc ?_ _)); refine blk_put (cs := #[.int .i64 t137, .int .i64 0]) ?_ 1 _ rfl; (with_reducible repeat (first | refine blk_drewN ?_ _ | refine blk_drew ?_ | refine blk_alloc ?_ _)); refine blk_put (cs := #[.int .i64 0, .int .i64 0]) ?_ 0 _ rfl; (with_reducible repeat (first | refine blk_drewN ?_ _ | refine blk_drew ?_ | refine blk_alloc ?_ _)); exact BK140.out⟩
                        have n6_ : Aside0 (Below w.heap.size w ((w159.setCell ⟨gb140, 0, none⟩ (.int .i64 t137)).setCell ⟨gb140, 1, none⟩ (.int .i64 t138))) := ⟨by repeat (first | (with_reducible first | exact HB.out | apply below_alloc | apply pw_below_drewN | apply below_drew1 | refine below_set ?_ GE118.out | refine below_set ?_ GE119.out | refine below_set ?_ GE123.out | refine below_set ?_ GE131.out | refine below_set ?_ GE135.out | refine below_set ?_ GE140.out) | exact HB.out)⟩
                        (try clear BK118)
                        (try clear BK119)
                        (try clear BK123)
                        (try clear BK131)
                        (try clear BK135)
                        (try clear BK140)
                        (try clear HB)
                        generalize ((w159.setCell ⟨gb140, 0, none⟩ (.int .i64 t137)).setCell ⟨gb140, 1, none⟩ (.int .i64 t138)) = w166 at n0_ n1_ n2_ n3_ n4_ n5_ n6_ ⊢
                        have BK118 := n0_
                        have BK119 := n1_
                        have BK123 := n2_
                        have BK131 := n3_
                        have BK135 := n4_
                        have BK140 := n5_
                        have HB := n6_
                        clear n0_ n1_ n2_ n3_ n4_ n5_ n6_
                        have n0_ := Aside0.mk (blk_drew BK118.out)
                        have n1_ := Aside0.mk (blk_drew BK119.out)
                        have n2_ := Aside0.mk (blk_drew BK123.out)
                        have n3_ := Aside0.mk (blk_drew BK131.out)
                        have n4_ := Aside0.mk (blk_drew BK135.out)
                        have n5_ := Aside0.mk (blk_drew BK140.out)
                        have n6_ := Aside0.mk (below_drew1 HB.out)
                        clear BK118
                        clear BK119
                        clear BK123
                        clear BK131
                        clear BK135
                        clear BK140
                        clear HB
                        have BK118 := n0_
                        have BK119 := n1_
                        have BK123 := n2_
                        have BK131 := n3_
                        have BK135 := n4_
                        have BK140 := n5_
                        have HB := n6_
                        clear n0_ n1_ n2_ n3_ n4_ n5_ n6_
                        refine start_ (n := 13) (S := fun w' => True) (ds := []) #[false, false, false, false, false, false, false, false, false, false, false, false, false] (by kernel_rfl) rfl rfl trivial (fun hHeld => ?_); refine with_tabW ashlarlaw01_NumOrder.tab14 ashlarlaw01_NumOrder.bits14 (fun HT_ HW_ => ?_)
                        generalize w166.drew = w167 at BK118 BK119 BK123 BK131 BK135 BK140 HB hHeld ⊢
                        refine pure_ (i := 0) (N := some 111) (v := ?_) (a' := ?_) #[true, false, false, false, false, false, false, false, false, false, false, false, false] rfl rfl (any_of HT_.out (by kernel_rfl)) (fun _ _ _ h => h) (Or.inl ⟨by rfl, ?_⟩) ?_ ?_
                        rotate_left
                        · intro w'
                          go_simp
                          with_reducible rfl
                        rotate_left
                        · simp only [Act.put, List.setIfInBounds_toArray, List.set_cons_zero, List.set_cons_succ, i64_w, i32_w]
                          rfl
                        refine pure_ (i := 1) (N := some 112) (v := ?_) (a' := ?_) #[true, true, false, false, false, false, false, false, false, false, false, false, false] rfl rfl (any_of HT_.out (by kernel_rfl)) (fun _ _ _ h => h) (Or.inl ⟨by rfl, ?_⟩) ?_ ?_
                        rotate_left
                        · intro w'
                          go_simp
                          with_reducible rfl
                        rotate_left
                        · simp only [Act.put, List.setIfInBounds_toArray, List.set_cons_zero, List.set_cons_succ, i64_w, i32_w]
                          rfl
                        refine pure_ (i := 2) (N := some 113) (v := ?_) (a' := ?_) #[true, true, true, false, false, false, false, false, false, false, false, false, false] rfl rfl (any_of HT_.out (by kernel_rfl)) (fun _ _ _ h => h) (Or.inl ⟨by rfl, ?_⟩) ?_ ?_
                        rotate_left
                        · intro w'
                          go_simp
                          with_reducible rfl
                        rotate_left
                        · simp only [Act.put, List.setIfInBounds_toArray, List.set_cons_zero, List.set_cons_succ, i64_w, i32_w]
                          rfl
                        refine pure_ (i := 3) (N := some 114) (v := ?_) (a' := ?_) #[true, true, true, true, false, false, false, false, false, false, false, false, false] rfl rfl (any_of HT_.out (by kernel_rfl)) (fun _ _ _ h => h) (Or.inl ⟨by rfl, ?_⟩) ?_ ?_
                        rotate_left
                        · intro w'
                          go_simp
                          with_reducible rfl
                        rotate_left
                        · simp only [Act.put, List.setIfInBounds_toArray, List.set_cons_zero, List.set_cons_succ, i64_w, i32_w]
                          rfl
                        refine pure_ (i := 4) (N := some 115) (v := ?_) (a' := ?_) #[true, true, true, true, true, false, false, false, false, false, false, false, false] rfl rfl (any_of HT_.out (by kernel_rfl)) (fun _ _ _ h => h) (Or.inl ⟨by rfl, ?_⟩) ?_ ?_
                        rotate_left
                        · intro w'
                          go_simp
                          with_reducible rfl
                        rotate_left
                        · simp only [Act.put, List.setIfInBounds_toArray, List.set_cons_zero, List.set_cons_succ, i64_w, i32_w]
                          rfl
                        refine pure_ (i := 5) (N := some 116) (v := undef) (a' := ?_) #[true, true, true, true, true, true, false, false, false, false, false, false, false] rfl rfl (any_of HT_.out (by kernel_rfl)) (fun _ _ _ h => h) (Or.inr ⟨by rfl, rfl⟩) ?_ ?_
                        rotate_left
                        · simp only [Act.put, List.setIfInBounds_toArray, List.set_cons_zero, List.set_cons_succ, i64_w, i32_w]
                          rfl
                        refine pure_ (i := 6) (N := some 117) (v := undef) (a' := ?_) #[true, true, true, true, true, true, true, false, false, false, false, false, false] rfl rfl (any_of HT_.out (by kernel_rfl)) (fun _ _ _ h => h) (Or.inr ⟨by rfl, rfl⟩) ?_ ?_
                        rotate_left
                        · simp only [Act.put, List.setIfInBounds_toArray, List.set_cons_zero, List.set_cons_succ, i64_w, i32_w]
                          rfl
                        refine pure_ (i := 7) (N := some 118) (v := undef) (a' := ?_) #[true, true, true, true, true, true, true, true, false, false, false, false, false] rfl rfl (any_of HT_.out (by kernel_rfl)) (fun _ _ _ h => h) (Or.inr ⟨by rfl, rfl⟩) ?_ ?_
                        rotate_left
                        · simp only [Act.put, List.setIfInBounds_toArray, List.set_cons_zero, List.set_cons_succ, i64_w, i32_w]
                          rfl
                        refine pure_ (i := 8) (N := some 119) (v := undef) (a' := ?_) #[true, true, true, true, true, true, true, true, true, false, false, false, false] rfl rfl (any_of HT_.out (by kernel_rfl)) (fun _ _ _ h => h) (Or.inr ⟨by rfl, rfl⟩) ?_ ?_
                        rotate_left
                        · simp only [Act.put, List.setIfInBounds_toArray, List.set_cons_zero, List.set_cons_succ, i64_w, i32_w]
                          rfl
                        refine pure_ (i := 9) (N := some 120) (v := undef) (a' := ?_) #[true, true, true, true, true, true, true, true, true, true, false, false, false] rfl rfl (any_of HT_.out (by kernel_rfl)) (fun _ _ _ h => h) (Or.inr ⟨by rfl, rfl⟩) ?_ ?_
                        rotate_left
                        · simp only [Act.put, List.setIfInBounds_toArray, List.set_cons_zero, List.set_cons_succ, i64_w, i32_w]
                          rfl
                        refine pure_ (i := 10) (N := some 121) (v := ?_) (a' := ?_) #[true, true, true, true, true, true, true, true, true, true, true, false, false] rfl rfl (any_of HT_.out (by kernel_rfl)) (fun _ _ _ h => h) (Or.inl ⟨by rfl, ?_⟩) ?_ ?_
                        rotate_left
                        · intro w'
                          go_simp
                          with_reducible rfl
                        rotate_left
                        · simp only [Act.put, List.setIfInBounds_toArray, List.set_cons_zero, List.set_cons_succ, i64_w, i32_w]
                          rfl
                        refine pure_ (i := 11) (N := some 122) (v := ?_) (a' := ?_) #[true, true, true, true, true, true, true, true, true, true, true, true, false] rfl rfl (any_of HT_.out (by kernel_rfl)) (fun _ _ _ h => h) (Or.inl ⟨by rfl, ?_⟩) ?_ ?_
                        rotate_left
                        · intro w'
                          go_simp
                          with_reducible rfl
                        rotate_left
                        · simp only [Act.put, List.setIfInBounds_toArray, List.set_cons_zero, List.set_cons_succ, i64_w, i32_w]
                          rfl
                        refine pure_ (i := 12) (N := some 12) (v := ?_) (a' := ?_) #[true, true, true, true, true, true, true, true, true, true, true, true, true] rfl rfl (any_of HT_.out (by kernel_rfl)) (fun _ _ _ h => h) (Or.inl ⟨by rfl, ?_⟩) ?_ ?_
                        rotate_left
                        · intro w'
                          go_simp
                          with_reducible rfl
                        rotate_left
                        · simp only [Act.put, List.setIfInBounds_toArray, List.set_cons_zero, List.set_cons_succ, i64_w, i32_w]
                          rfl
                        refine done_ (done_of HT_.out (by kernel_rfl)) ?_
                        try go_wp2
                        go_ret
                        exact ⟨by first | rfl | (simp [errW_none, errW_some] <;> rfl) | (simp [*, errW_none, errW_some] <;> rfl), by repeat (first | (with_reducible first | exact HB.out | apply below_alloc | apply pw_below_drewN | apply below_drew1 | refine below_set ?_ GE118.out | refine below_set ?_ GE119.out | refine below_set ?_ GE123.out | refine below_set ?_ GE131.out | refine below_set ?_ GE135.out | refine below_set ?_ GE140.out) | exact HB.out)⟩
                    · replace c124 := Bool.eq_false_iff.mpr c124
                      subst c124
                      have H1 : (some false) = some r := by rw [if_neg (show ¬ (false = true) by decide)] at H; exact H
                      clear H
                      have H := H1
                      clear H1
                      obtain rfl := Option.some.inj H
                      have hnb168 := NB118_119.out
                      have hnc168 := NB119_118.out
                      have hnb169 := NB118_123.out
                      have hnc169 := NB123_118.out
                      have hnb170 := NB118_131.out
                      have hnc170 := NB131_118.out
                      have hnb171 := NB118_135.out
                      have hnc171 := NB135_118.out
                      have hcz172_0 : wc.cell? ⟨gb118, 0, none⟩ = some (.int .i64 t113) := (blk_cell BK118.out 0).trans rfl
                      have hcz172_1 : wc.cell? ⟨gb118, 1, none⟩ = some (.int .i64 t114) := (blk_cell BK118.out 1).trans rfl
                      have hfz172_0 := blk_frozen BK118.out 0
                      have hfz172_1 := blk_frozen BK118.out 1
                      have hnb173 := NB119_123.out
                      have hnc173 := NB123_119.out
                      have hnb174 := NB119_131.out
                      have hnc174 := NB131_119.out
                      have hnb175 := NB119_135.out
                      have hnc175 := NB135_119.out
                      have hcz176_0 : wc.cell? ⟨gb119, 0, none⟩ = some (.int .i64 t115) := (blk_cell BK119.out 0).trans rfl
                      have hcz176_1 : wc.cell? ⟨gb119, 1, none⟩ = some (.int .i64 t116) := (blk_cell BK119.out 1).trans rfl
                      have hfz176_0 := blk_frozen BK119.out 0
                      have hfz176_1 := blk_frozen BK119.out 1
                      try go_wp2_with (first | ((with_reducible refine gate_callee (f := 24) rfl ?_); refine goesL_ (some 108) rfl rfl Try.func24 (by kernel_rfl) rfl #[.agg #[.int .i64 t113, .int .i64 t114], .agg #[.int .i64 t115, .int .i64 t116]] rfl (by (try simp only [List.map_toArray, List.map_cons, List.map_nil]); first | done | rfl | (simp only [List.length_drop, List.length_take]; rfl)) ?_; (with_reducible refine (num_Rat_Minus.calls t113 t114 t115 t116 t137 t138 t139 _ A123.out).mono ?_); rintro e w177 ⟨rfl, hb⟩; refine ⟨_, rfl, ?_⟩; have n0_ := Aside0.mk (blk_below (g := gb118) (o := .cells #[.int .i64 t113, .int .i64 t114] 24 (0, 0)) (by (with_reducible repeat (first | refine blk_drewN ?_ _ | refine blk_drew ?_ | refine blk_alloc ?_ _)); exact BK118.out) hb); have n1_ := Aside0.mk (blk_below (g := gb119) (o := .cells #[.int .i64 t115, .int .i64 t116] 24 (0, 0)) (by (with_reducible repeat (first | refine blk_drewN ?_ _ | refine blk_drew ?_ | refine blk_alloc ?_ _)); exact BK119.out) hb); have n2_ := Aside0.mk (blk_below (g := gb123) (o := .cells #[.int .i64 t120, .int .i64 t121] 24 (0, 0)) (by (with_reducible repeat (first | refine blk_drewN ?_ _ | refine blk_drew ?_ | refine blk_alloc ?_ _)); exact BK123.out) hb); have n3_ := Aside0.mk (blk_below (g := gb131) (o := .cells #[.int .i64 t128, .int .i64 t129] 24 (0, 0)) (by (with_reducible repeat (first | refine blk_drewN ?_ _ | refine blk_drew ?_ | refine blk_alloc ?_ _)); exact BK131.out) hb); have n4_ := Aside0.mk (blk_below (g := gb135) (o := .cells #[.int .i64 t132, .int .i64 t133] 24 (0, 0)) (by (with_reducible repeat (first | refine blk_drewN ?_ _ | refine blk_drew ?_ | refine blk_alloc ?_ _)); exact BK135.out) hb); have n5_ := Aside0.mk (below_step (by repeat (first | (with_reducible first | exact HB.out | apply below_alloc | apply pw_below_drewN | apply below_drew1 | refine below_set ?_ GE118.out | refine below_set ?_ GE119.out | refine below_set ?_ GE123.out | refine below_set ?_ GE131.out | refine below_set ?_ GE135.out) | exact HB.out)) hb); clear BK118; clear BK119; clear BK123; clear BK131; clear BK135; clear HB; have BK118 := n0_; have BK119 := n1_; have BK123 := n2_; have BK131 := n3_; have BK135 := n4_; have HB := n5_; clear n0_ n1_ n2_ n3_ n4_ n5_; (try clear hb); (try clear hb2); (try clear hk); (try clear hi)) | ((with_reducible refine gate_dst (N := 24) rfl ?_); refine box_event ?hg (N := 24) ?hd (cs := #[.int .i64 0, .int .i64 0]) (t := 24) ?hr ?_; (case hd => rfl); (case hg => rfl); (case hr => first | (go_simp; done) | (go_simp; rfl)); intro gb140 hg w178 hbox hb; have n0_ := Aside0.mk (blk_below (g := gb118) (o := .cells #[.int .i64 t113, .int .i64 t114] 24 (0, 0)) (by (with_reducible repeat (first | refine blk_drewN ?_ _ | refine blk_drew ?_ | refine blk_alloc ?_ _)); exact BK118.out) hb); have n1_ := Aside0.mk (blk_below (g := gb119) (o := .cells #[.int .i64 t115, .int .i64 t116] 24 (0, 0)) (by (with_reducible repeat (first | refine blk_drewN ?_ _ | refine blk_drew ?_ | refine blk_alloc ?_ _)); exact BK119.out) hb); have n2_ := Aside0.mk (blk_below (g := gb123) (o := .cells #[.int .i64 t120, .int .i64 t121] 24 (0, 0)) (by (with_reducible repeat (first | refine blk_drewN ?_ _ | refine blk_drew ?_ | refine blk_alloc ?_ _)); exact BK123.out) hb); have n3_ := Aside0.mk (blk_below (g := gb131) (o := .cells #[.int .i64 t128, .int .i64 t129] 24 (0, 0)) (by (with_reducible repeat (first | refine blk_drewN ?_ _ | refine blk_drew ?_ | refine blk_alloc ?_ _)); exact BK131.out) hb); have n4_ := Aside0.mk (blk_below (g := gb135) (o := .cells #[.int .i64 t132, .int .i64 t133] 24 (0, 0)) (by (with_reducible repeat (first | refine blk_drewN ?_ _ | refine blk_drew ?_ | refine blk_alloc ?_ _)); exact BK135.out) hb); have n5_ := Aside0.mk (below_step (by repeat (first | (with_reducible first | exact HB.out | apply below_alloc | apply pw_below_drewN | apply below_drew1 | refine below_set ?_ GE118.out | refine below_set ?_ GE119.out | refine below_set ?_ GE123.out | refine below_set ?_ GE131.out | refine below_set ?_ GE135.out) | exact HB.out)) hb); have n6_ := Aside0.mk (hbox); have n7_ := Aside0.mk ((by rw [hg]; exact (below_size (by repeat (first | (with_reducible first | exact HB.out | apply below_alloc | apply pw_below_drewN | apply below_drew1 | refine below_set ?_ GE118.out | refine below_set ?_ GE119.out | refine below_set ?_ GE123.out | refine below_set ?_ GE131.out | refine below_set ?_ GE135.out) | exact HB.out))) : w.heap.size ≤ gb140)); have n8_ := Aside0.mk ((by rw [hg]; exact (below_size (by repeat (first | (with_reducible first | exact HB.out | apply below_alloc | apply pw_below_drewN | apply below_drew1 | refine below_set ?_ GE118.out | refine below_set ?_ GE119.out | refine below_set ?_ GE123.out | refine below_set ?_ GE131.out | refine below_set ?_ GE135.out) | exact HB.out))) : w.heap.size ≤ gb140)); have n9_ := Aside0.mk ((by rw [hg]; exact Nat.ne_of_lt (blk_lt (g := gb118) (o := .cells #[.int .i64 t113, .int .i64 t114] 24 (0, 0)) (by (with_reducible repeat (first | refine blk_drewN ?_ _ | refine blk_drew ?_ | refine blk_alloc ?_ _)); exact BK118.out)) : gb118 ≠ gb140)); have n10_ := Aside0.mk ((by rw [hg]; exact Nat.ne_of_gt (blk_lt (g := gb118) (o := .cells #[.int .i64 t113, .int .i64 t114] 24 (0, 0)) (by (with_reducible repeat (first | refine blk_drewN ?_ _ | refine blk_drew ?_ | refine blk_alloc ?_ _)); exact BK118.out)) : gb140 ≠ gb118)); have n11_ := Aside0.mk ((by rw [hg]; exact Nat.ne_of_lt (blk_lt (g := gb119) (o := .cells #[.int .i64 t115, .int .i64 t116] 24 (0, 0)) (by (with_reducible repeat (first | refine blk_drewN ?_ _ | refine blk_drew ?_ | refine blk_alloc ?_ _)); exact BK119.out)) : gb119 ≠ gb140)); have n12_ := Aside0.mk ((by rw [hg]; exact Nat.ne_of_gt (blk_lt (g := gb119) (o := .cells #[.int .i64 t115, .int .i64 t116] 24 (0, 0)) (by (with_reducible repeat (first | refine blk_drewN ?_ _ | refine blk_drew ?_ | refine blk_alloc ?_ _)); exact BK119.out)) : gb140 ≠ gb119)); have n13_ := Aside0.mk ((by rw [hg]; exact Nat.ne_of_lt (blk_lt (g := gb123) (o := .cells #[.int .i64 t120, .int .i64 t121] 24 (0, 0)) (by (with_reducible repeat (first | refine blk_drewN ?_ _ | refine blk_drew ?_ | refine blk_alloc ?_ _)); exact BK123.out)) : gb123 ≠ gb140)); have n14_ := Aside0.mk ((by rw [hg]; exact Nat.ne_of_gt (blk_lt (g := gb123) (o := .cells #[.int .i64 t120, .int .i64 t121] 24 (0, 0)) (by (with_reducible repeat (first | refine blk_drewN ?_ _ | refine blk_drew ?_ | refine blk_alloc ?_ _)); exact BK123.out)) : gb140 ≠ gb123)); have n15_ := Aside0.mk ((by rw [hg]; exact Nat.ne_of_lt (blk_lt (g := gb131) (o := .cells #[.int .i64 t128, .int .i64 t129] 24 (0, 0)) (by (with_reducible repeat (first | refine blk_drewN ?_ _ | refine blk_drew ?_ | refine blk_alloc ?_ _)); exact BK131.out)) : gb131 ≠ gb140)); have n16_ := Aside0.mk ((by rw [hg]; exact Nat.ne_of_gt (blk_lt (g := gb131) (o := .cells #[.int .i64 t128, .int .i64 t129] 24 (0, 0)) (by (with_reducible repeat (first | refine blk_drewN ?_ _ | refine blk_drew ?_ | refine blk_alloc ?_ _)); exact BK131.out)) : gb140 ≠ gb131)); have n17_ := Aside0.mk ((by rw [hg]; exact Nat.ne_of_lt (blk_lt (g := gb135) (o := .cells #[.int .i64 t132, .int .i64 t133] 24 (0, 0)) (by (with_reducible repeat (first | refine blk_drewN ?_ _ | refine blk_drew ?_ | refine blk_alloc ?_ _)); exact BK135.out)) : gb135 ≠ gb140)); have n18_ := Aside0.mk ((by rw [hg]; exact Nat.ne_of_gt (blk_lt (g := gb135) (o := .cells #[.int .i64 t132, .int .i64 t133] 24 (0, 0)) (by (with_reducible repeat (first | refine blk_drewN ?_ _ | refine blk_drew ?_ | refine blk_alloc ?_ _)); exact BK135.out)) : gb140 ≠ gb135)); clear BK118; clear BK119; clear BK123; clear BK131; clear BK135; clear HB; have BK118 := n0_; have BK119 := n1_; have BK123 := n2_; have BK131 := n3_; have BK135 := n4_; have HB := n5_; have BK140 := n6_; have GW140 := n7_; have GE140 := n8_; have NB118_140 := n9_; have NB140_118 := n10_; have NB119_140 := n11_; have NB140_119 := n12_; have NB123_140 := n13_; have NB140_123 := n14_; have NB131_140 := n15_; have NB140_131 := n16_; have NB135_140 := n17_; have NB140_135 := n18_; clear n0_ n1_ n2_ n3_ n4_ n5_ n6_ n7_ n8_ n9_ n10_ n11_ n12_ n13_ n14_ n15_ n16_ n17_ n18_; clear hb hbox hg; have hnb179 := NB140_118.out; have hnc179 := NB118_140.out; have hnb180 := NB140_119.out; have hnc180 := NB119_140.out; have hnb181 := NB140_123.out; have hnc181 := NB123_140.out; have hnb182 := NB140_131.out; have hnc182 := NB131_140.out; have hnb183 := NB140_135.out; have hnc183 := NB135_140.out; have hcz184_0 : w178.cell? ⟨gb140, 0, none⟩ = some (.int .i64 0) := (blk_cell BK140.out 0).trans rfl; have hcz184_1 : w178.cell? ⟨gb140, 1, none⟩ = some (.int .i64 0) := (blk_cell BK140.out 1).trans rfl; have hfz184_0 := blk_frozen BK140.out 0; have hfz184_1 := blk_frozen BK140.out 1))
                      have n0_ : Aside0 (((w178.setCell ⟨gb140, 0, none⟩ (.int .i64 t137)).setCell ⟨gb140, 1, none⟩ (.int .i64 t138)).heap[gb118]? = some (.cells #[.int .i64 t113, .int .i64 t114] 24 (0, 0))) := ⟨by (with_reducible repeat (first | refine blk_drewN ?_ _ | refine blk_drew ?_ | refine blk_alloc ?_ _)); refine blk_far ?_ NB118_140.out _; (with_reducible repeat (first | refine blk_drewN ?_ _ | refine blk_drew ?_ | refine blk_alloc ?_ _)); refine blk_far ?_ NB118_140.out _; (with_reducible repeat (first | refine blk_drewN ?_ _ | refine blk_drew ?_ | refine blk_alloc ?_ _)); exact BK118.out⟩
                      have n1_ : Aside0 (((w178.setCell ⟨gb140, 0, none⟩ (.int .i64 t137)).setCell ⟨gb140, 1, none⟩ (.int .i64 t138)).heap[gb119]? = some (.cells #[.int .i64 t115, .int .i64 t116] 24 (0, 0))) := ⟨by (with_reducible repeat (first | refine blk_drewN ?_ _ | refine blk_drew ?_ | refine blk_alloc ?_ _)); refine blk_far ?_ NB119_140.out _; (with_reducible repeat (first | refine blk_drewN ?_ _ | refine blk_drew ?_ | refine blk_alloc ?_ _)); refine blk_far ?_ NB119_140.out _; (with_reducible repeat (first | refine blk_drewN ?_ _ | refine blk_drew ?_ | refine blk_alloc ?_ _)); exact BK119.out⟩
                      have n2_ : Aside0 (((w178.setCell ⟨gb140, 0, none⟩ (.int .i64 t137)).setCell ⟨gb140, 1, none⟩ (.int .i64 t138)).heap[gb123]? = some (.cells #[.int .i64 t120, .int .i64 t121] 24 (0, 0))) := ⟨by (with_reducible repeat (first | refine blk_drewN ?_ _ | refine blk_drew ?_ | refine blk_alloc ?_ _)); refine blk_far ?_ NB123_140.out _; (with_reducible repeat (first | refine blk_drewN ?_ _ | refine blk_drew ?_ | refine blk_alloc ?_ _)); refine blk_far ?_ NB123_140.out _; (with_reducible repeat (first | refine blk_drewN ?_ _ | refine blk_drew ?_ | refine blk_alloc ?_ _)); exact BK123.out⟩
                      have n3_ : Aside0 (((w178.setCell ⟨gb140, 0, none⟩ (.int .i64 t137)).setCell ⟨gb140, 1, none⟩ (.int .i64 t138)).heap[gb131]? = some (.cells #[.int .i64 t128, .int .i64 t129] 24 (0, 0))) := ⟨by (with_reducible repeat (first | refine blk_drewN ?_ _ | refine blk_drew ?_ | refine blk_alloc ?_ _)); refine blk_far ?_ NB131_140.out _; (with_reducible repeat (first | refine blk_drewN ?_ _ | refine blk_drew ?_ | refine blk_alloc ?_ _)); refine blk_far ?_ NB131_140.out _; (with_reducible repeat (first | refine blk_drewN ?_ _ | refine blk_drew ?_ | refine blk_alloc ?_ _)); exact BK131.out⟩
                      have n4_ : Aside0 (((w178.setCell ⟨gb140, 0, none⟩ (.int .i64 t137)).setCell ⟨gb140, 1, none⟩ (.int .i64 t138)).heap[gb135]? = some (.cells #[.int .i64 t132, .int .i64 t133] 24 (0, 0))) := ⟨by (with_reducible repeat (first | refine blk_drewN ?_ _ | refine blk_drew ?_ | refine blk_alloc ?_ _)); refine blk_far ?_ NB135_140.out _; (with_reducible repeat (first | refine blk_drewN ?_ _ | refine blk_drew ?_ | refine blk_alloc ?_ _)); refine blk_far ?_ NB135_140.out _; (with_reducible repeat (first | refine blk_drewN ?_ _ | refine blk_drew ?_ | refine blk_alloc ?_ _)); exact BK135.out⟩
                      have n5_ : Aside0 (((w178.setCell ⟨gb140, 0, none⟩ (.int .i64 t137)).setCell ⟨gb140, 1, none⟩ (.int .i64 t138)).heap[gb140]? = some (.cells #[.int .i64 t137, .int .i64 t138] 24 (0, 0))) := ⟨by (with_reducible repeat (first | refine blk_drewN ?_ _ | refine blk_drew ?_ | refine blk_alloc ?_ _)); refine blk_put (cs := #[.int .i64 t137, .int .i64 0]) ?_ 1 _ rfl; (with_reducible repeat (first | refine blk_drewN ?_ _ | refine blk_drew ?_ | refine blk_alloc ?_ _)); refine blk_put (cs := #[.int .i64 0, .int .i64 0]) ?_ 0 _ rfl; (with_reducible repeat (first | refine blk_drewN ?_ _ | refine blk_drew ?_ | refine blk_alloc ?_ _)); exact BK140.out⟩
                      have n6_ : Aside0 (Below w.heap.size w ((w178.setCell ⟨gb140, 0, none⟩ (.int .i64 t137)).setCell ⟨gb140, 1, none⟩ (.int .i64 t138))) := ⟨by repeat (first | (with_reducible first | exact HB.out | apply below_alloc | apply pw_below_drewN | apply below_drew1 | refine below_set ?_ GE118.out | refine below_set ?_ GE119.out | refine below_set ?_ GE123.out | refine below_set ?_ GE131.out | refine below_set ?_ GE135.out | refine below_set ?_ GE140.out) | exact HB.out)⟩
                      (try clear BK118)
                      (try clear BK119)
                      (try clear BK123)
                      (try clear BK131)
                      (try clear BK135)
                      (try clear BK140)
                      (try clear HB)
                      generalize ((w178.setCell ⟨gb140, 0, none⟩ (.int .i64 t137)).setCell ⟨gb140, 1, none⟩ (.int .i64 t138)) = w185 at n0_ n1_ n2_ n3_ n4_ n5_ n6_ ⊢
                      have BK118 := n0_
                      have BK119 := n1_
                      have BK123 := n2_
                      have BK131 := n3_
                      have BK135 := n4_
                      have BK140 := n5_
                      have HB := n6_
                      clear n0_ n1_ n2_ n3_ n4_ n5_ n6_
                      have n0_ := Aside0.mk (blk_drew BK118.out)
                      have n1_ := Aside0.mk (blk_drew BK119.out)
                      have n2_ := Aside0.mk (blk_drew BK123.out)
                      have n3_ := Aside0.mk (blk_drew BK131.out)
                      have n4_ := Aside0.mk (blk_drew BK135.out)
                      have n5_ := Aside0.mk (blk_drew BK140.out)
                      have n6_ := Aside0.mk (below_drew1 HB.out)
                      clear BK118
                      clear BK119
                      clear BK123
                      clear BK131
                      clear BK135
                      clear BK140
                      clear HB
                      have BK118 := n0_
                      have BK119 := n1_
                      have BK123 := n2_
                      have BK131 := n3_
                      have BK135 := n4_
                      have BK140 := n5_
                      have HB := n6_
                      clear n0_ n1_ n2_ n3_ n4_ n5_ n6_
                      refine start_ (n := 13) (S := fun w' => True) (ds := []) #[false, false, false, false, false, false, false, false, false, false, false, false, false] (by kernel_rfl) rfl rfl trivial (fun hHeld => ?_); refine with_tabW ashlarlaw01_NumOrder.tab14 ashlarlaw01_NumOrder.bits14 (fun HT_ HW_ => ?_)
                      generalize w185.drew = w186 at BK118 BK119 BK123 BK131 BK135 BK140 HB hHeld ⊢
                      refine pure_ (i := 0) (N := some 111) (v := ?_) (a' := ?_) #[true, false, false, false, false, false, false, false, false, false, false, false, false] rfl rfl (any_of HT_.out (by kernel_rfl)) (fun _ _ _ h => h) (Or.inl ⟨by rfl, ?_⟩) ?_ ?_
                      rotate_left
                      · intro w'
                        go_simp
                        with_reducible rfl
                      rotate_left
                      · simp only [Act.put, List.setIfInBounds_toArray, List.set_cons_zero, List.set_cons_succ, i64_w, i32_w]
                        rfl
                      refine pure_ (i := 1) (N := some 112) (v := ?_) (a' := ?_) #[true, true, false, false, false, false, false, false, false, false, false, false, false] rfl rfl (any_of HT_.out (by kernel_rfl)) (fun _ _ _ h => h) (Or.inl ⟨by rfl, ?_⟩) ?_ ?_
                      rotate_left
                      · intro w'
                        go_simp
                        with_reducible rfl
                      rotate_left
                      · simp only [Act.put, List.setIfInBounds_toArray, List.set_cons_zero, List.set_cons_succ, i64_w, i32_w]
                        rfl
                      refine pure_ (i := 2) (N := some 113) (v := undef) (a' := ?_) #[true, true, true, false, false, false, false, false, false, false, false, false, false] rfl rfl (any_of HT_.out (by kernel_rfl)) (fun _ _ _ h => h) (Or.inr ⟨by rfl, rfl⟩) ?_ ?_
                      rotate_left
                      · simp only [Act.put, List.setIfInBounds_toArray, List.set_cons_zero, List.set_cons_succ, i64_w, i32_w]
                        rfl
                      refine pure_ (i := 3) (N := some 114) (v := undef) (a' := ?_) #[true, true, true, true, false, false, false, false, false, false, false, false, false] rfl rfl (any_of HT_.out (by kernel_rfl)) (fun _ _ _ h => h) (Or.inr ⟨by rfl, rfl⟩) ?_ ?_
                      rotate_left
                      · simp only [Act.put, List.setIfInBounds_toArray, List.set_cons_zero, List.set_cons_succ, i64_w, i32_w]
                        rfl
                      refine pure_ (i := 4) (N := some 115) (v := undef) (a' := ?_) #[true, true, true, true, true, false, false, false, false, false, false, false, false] rfl rfl (any_of HT_.out (by kernel_rfl)) (fun _ _ _ h => h) (Or.inr ⟨by rfl, rfl⟩) ?_ ?_
                      rotate_left
                      · simp only [Act.put, List.setIfInBounds_toArray, List.set_cons_zero, List.set_cons_succ, i64_w, i32_w]
                        rfl
                      refine pure_ (i := 5) (N := some 116) (v := undef) (a' := ?_) #[true, true, true, true, true, true, false, false, false, false, false, false, false] rfl rfl (any_of HT_.out (by kernel_rfl)) (fun _ _ _ h => h) (Or.inr ⟨by rfl, rfl⟩) ?_ ?_
                      rotate_left
                      · simp only [Act.put, List.setIfInBounds_toArray, List.set_cons_zero, List.set_cons_succ, i64_w, i32_w]
                        rfl
                      refine pure_ (i := 6) (N := some 117) (v := undef) (a' := ?_) #[true, true, true, true, true, true, true, false, false, false, false, false, false] rfl rfl (any_of HT_.out (by kernel_rfl)) (fun _ _ _ h => h) (Or.inr ⟨by rfl, rfl⟩) ?_ ?_
                      rotate_left
                      · simp only [Act.put, List.setIfInBounds_toArray, List.set_cons_zero, List.set_cons_succ, i64_w, i32_w]
                        rfl
                      refine pure_ (i := 7) (N := some 118) (v := undef) (a' := ?_) #[true, true, true, true, true, true, true, true, false, false, false, false, false] rfl rfl (any_of HT_.out (by kernel_rfl)) (fun _ _ _ h => h) (Or.inr ⟨by rfl, rfl⟩) ?_ ?_
                      rotate_left
                      · simp only [Act.put, List.setIfInBounds_toArray, List.set_cons_zero, List.set_cons_succ, i64_w, i32_w]
                        rfl
                      refine pure_ (i := 8) (N := some 119) (v := undef) (a' := ?_) #[true, true, true, true, true, true, true, true, true, false, false, false, false] rfl rfl (any_of HT_.out (by kernel_rfl)) (fun _ _ _ h => h) (Or.inr ⟨by rfl, rfl⟩) ?_ ?_
                      rotate_left
                      · simp only [Act.put, List.setIfInBounds_toArray, List.set_cons_zero, List.set_cons_succ, i64_w, i32_w]
                        rfl
                      refine pure_ (i := 9) (N := some 120) (v := undef) (a' := ?_) #[true, true, true, true, true, true, true, true, true, true, false, false, false] rfl rfl (any_of HT_.out (by kernel_rfl)) (fun _ _ _ h => h) (Or.inr ⟨by rfl, rfl⟩) ?_ ?_
                      rotate_left
                      · simp only [Act.put, List.setIfInBounds_toArray, List.set_cons_zero, List.set_cons_succ, i64_w, i32_w]
                        rfl
                      refine pure_ (i := 10) (N := some 121) (v := undef) (a' := ?_) #[true, true, true, true, true, true, true, true, true, true, true, false, false] rfl rfl (any_of HT_.out (by kernel_rfl)) (fun _ _ _ h => h) (Or.inr ⟨by rfl, rfl⟩) ?_ ?_
                      rotate_left
                      · simp only [Act.put, List.setIfInBounds_toArray, List.set_cons_zero, List.set_cons_succ, i64_w, i32_w]
                        rfl
                      refine pure_ (i := 11) (N := some 122) (v := ?_) (a' := ?_) #[true, true, true, true, true, true, true, true, true, true, true, true, false] rfl rfl (any_of HT_.out (by kernel_rfl)) (fun _ _ _ h => h) (Or.inl ⟨by rfl, ?_⟩) ?_ ?_
                      rotate_left
                      · intro w'
                        go_simp
                        with_reducible rfl
                      rotate_left
                      · simp only [Act.put, List.setIfInBounds_toArray, List.set_cons_zero, List.set_cons_succ, i64_w, i32_w]
                        rfl
                      refine pure_ (i := 12) (N := some 12) (v := ?_) (a' := ?_) #[true, true, true, true, true, true, true, true, true, true, true, true, true] rfl rfl (any_of HT_.out (by kernel_rfl)) (fun _ _ _ h => h) (Or.inl ⟨by rfl, ?_⟩) ?_ ?_
                      rotate_left
                      · intro w'
                        go_simp
                        with_reducible rfl
                      rotate_left
                      · simp only [Act.put, List.setIfInBounds_toArray, List.set_cons_zero, List.set_cons_succ, i64_w, i32_w]
                        rfl
                      refine done_ (done_of HT_.out (by kernel_rfl)) ?_
                      try go_wp2
                      go_ret
                      exact ⟨by first | rfl | (simp [errW_none, errW_some] <;> rfl) | (simp [*, errW_none, errW_some] <;> rfl), by repeat (first | (with_reducible first | exact HB.out | apply below_alloc | apply pw_below_drewN | apply below_drew1 | refine below_set ?_ GE118.out | refine below_set ?_ GE119.out | refine below_set ?_ GE123.out | refine below_set ?_ GE131.out | refine below_set ?_ GE135.out | refine below_set ?_ GE140.out) | exact HB.out)⟩

/-- THE ONE PURE STATEMENT of ashlarlaw01_NumOrder: yours. -/
def ashlarlaw01_NumOrder.Pure : Prop := ∀ (a0 : Int) (a1 : Int) (a2 : Int) (a3 : Int) (a4 : Int) (a5 : Int), (Lit.int .i64 a0).wf = true → (Lit.int .i64 a1).wf = true → (Lit.int .i64 a2).wf = true → (Lit.int .i64 a3).wf = true → (Lit.int .i64 a4).wf = true → (Lit.int .i64 a5).wf = true → ∃ k, ashlarlaw01_NumOrder.f k a0 a1 a2 a3 a4 a5 = some true
theorem ashlarlaw01_NumOrder.walk (P : ashlarlaw01_NumOrder.Pure) (a0 : Int) (a1 : Int) (a2 : Int) (a3 : Int) (a4 : Int) (a5 : Int) (w : World) (w0 : (Lit.int .i64 a0).wf = true) (w1 : (Lit.int .i64 a1).wf = true) (w2 : (Lit.int .i64 a2).wf = true) (w3 : (Lit.int .i64 a3).wf = true) (w4 : (Lit.int .i64 a4).wf = true) (w5 : (Lit.int .i64 a5).wf = true) :
    Calls Try.prog 5 #[.int .i64 a0, .int .i64 a1, .int .i64 a2, .int .i64 a3, .int .i64 a4, .int .i64 a5] w fun e w' => e = .returned (.bool true) ∧ Below w.heap.size w w' := by
  obtain ⟨k, h⟩ := P a0 a1 a2 a3 a4 a5 w0 w1 w2 w3 w4 w5
  refine (ashlarlaw01_NumOrder.calls k a0 a1 a2 a3 a4 a5 true w h).mono ?_
  rintro e w' ⟨rfl, hd⟩
  exact ⟨rfl, hd⟩

end Go.Proofs.Ytnggikhpnophgaa.PNumOrder
