-- Written by a program of this session (myprint.py) out of the translation, with contracts of this session given.
import Derived.Test.YthckboogibhjaaaDoorPCnfMeansx0
import Derived.Test.YthckboogibhjaaaDoorPCnfMeansx2
namespace Go.Proofs.YthckboogibhjaaaDoor.PCnfMeans
open Go.RowKit Go.Proofs.YthckboogibhjaaaDoor.Trm Go.Proofs.YthckboogibhjaaaDoorW.PrintWords Go.Proofs.YthckboogibhjaaaDoorW.PrintLast Go.Proofs.YthckboogibhjaaaDoorW.PrintMore
attribute [local go_sem] max2_int min2_int max_two min_two max_three min_three max_four min_four   -- for this text's walks alone
set_option linter.unusedVariables false
set_option linter.unusedSimpArgs false

/-! ### ashlarlaw07_truth: function 16 -/
mutual
def ashlarlaw07_truth.l0 : Nat → List (S24) → Int → Bool → Int → Int → ByteArray → Int → List (S24) → Option (Bool)
  | 0, _, _, _, _, _, _, _, _ => none
  | k + 1, x0, x1, x7, x8, x121000, x121001, x121002, x121003 => if x8 < (x121003.length : Int) then (if 0 ≤ x8 then ((ashlarlaw07_truth.f k x0 x1 ((rd_T24 x121003 x8).f0) ((rd_T24 x121003 x8).f1) ((rd_T24 x121003 x8).f2) ((rd_T24 x121003 x8).f3)).bind fun t128 => (if x7 = true then (ashlarlaw07_truth.l0 k x0 x1 t128 (wrap64 (x8 + 1)) x121000 x121001 x121002 x121003) else (ashlarlaw07_truth.l0 k x0 x1 false (wrap64 (x8 + 1)) x121000 x121001 x121002 x121003))) else (none)) else (some x7)
def ashlarlaw07_truth.l1 : Nat → List (S24) → Int → Bool → Int → Int → ByteArray → Int → List (S24) → Option (Bool)
  | 0, _, _, _, _, _, _, _, _ => none
  | k + 1, x0, x1, x10, x11, x121000, x121001, x121002, x121003 => if x11 < (x121003.length : Int) then (if 0 ≤ x11 then ((ashlarlaw07_truth.f k x0 x1 ((rd_T24 x121003 x11).f0) ((rd_T24 x121003 x11).f1) ((rd_T24 x121003 x11).f2) ((rd_T24 x121003 x11).f3)).bind fun t130 => (if x10 = true then (ashlarlaw07_truth.l1 k x0 x1 true (wrap64 (x11 + 1)) x121000 x121001 x121002 x121003) else (ashlarlaw07_truth.l1 k x0 x1 t130 (wrap64 (x11 + 1)) x121000 x121001 x121002 x121003))) else (none)) else (some x10)
def ashlarlaw07_truth.f : Nat → List (S24) → Int → Int → ByteArray → Int → List (S24) → Option (Bool)
  | 0, _, _, _, _, _, _ => none
  | k + 1, l0, a1, a2_0, a2_1, a2_2, l2_3 => if a2_0 = 16 then (some true) else (if a2_0 = 17 then (some false) else (if a2_0 = 18 then (if 0 < (l2_3.length : Int) then ((ashlarlaw07_truth.f k l0 a1 ((rd_T24 l2_3 0).f0) ((rd_T24 l2_3 0).f1) ((rd_T24 l2_3 0).f2) ((rd_T24 l2_3 0).f3)).bind fun t122 => (some (!t122))) else (none)) else (if a2_0 = 21 then (if 0 < (l2_3.length : Int) then ((ashlarlaw07_truth.f k l0 a1 ((rd_T24 l2_3 0).f0) ((rd_T24 l2_3 0).f1) ((rd_T24 l2_3 0).f2) ((rd_T24 l2_3 0).f3)).bind fun t124 => (if t124 = true then (if 1 < (l2_3.length : Int) then ((ashlarlaw07_truth.f k l0 a1 ((rd_T24 l2_3 1).f0) ((rd_T24 l2_3 1).f1) ((rd_T24 l2_3 1).f2) ((rd_T24 l2_3 1).f3)).bind fun t126 => (some t126)) else (none)) else (some true))) else (none)) else (if a2_0 = 19 then (ashlarlaw07_truth.l0 k l0 a1 true 0 a2_0 a2_1 a2_2 l2_3) else (if a2_0 = 20 then (ashlarlaw07_truth.l1 k l0 a1 false 0 a2_0 a2_1 a2_2 l2_3) else ((ashlarref07_Find.f k l0 a2_0 a2_1 a2_2 l2_3).bind fun t131 => (if 0 ≤ (IntKind.u64.wrap (t131)) then (some ((Go.bits .and .u64 (shr .u64 a1 (IntKind.u64.wrap (t131))) 1) == 1)) else (none))))))))
end
theorem ashlarlaw07_truth.mono_l : ∀ k, (∀ y0 y1 y2 y3 y4 y5, LeO (ashlarlaw07_truth.f k y0 y1 y2 y3 y4 y5) (ashlarlaw07_truth.f (k + 1) y0 y1 y2 y3 y4 y5)) ∧ (∀ y0 y1 y2 y3 y4 y5 y6 y7, LeO (ashlarlaw07_truth.l0 k y0 y1 y2 y3 y4 y5 y6 y7) (ashlarlaw07_truth.l0 (k + 1) y0 y1 y2 y3 y4 y5 y6 y7)) ∧ (∀ y0 y1 y2 y3 y4 y5 y6 y7, LeO (ashlarlaw07_truth.l1 k y0 y1 y2 y3 y4 y5 y6 y7) (ashlarlaw07_truth.l1 (k + 1) y0 y1 y2 y3 y4 y5 y6 y7))
  | 0 => ⟨fun _ _ _ _ _ _ r h => by simp [ashlarlaw07_truth.f] at h, fun _ _ _ _ _ _ _ _ r h => by simp [ashlarlaw07_truth.l0] at h, fun _ _ _ _ _ _ _ _ r h => by simp [ashlarlaw07_truth.l1] at h⟩
  | k + 1 => by
    obtain ⟨ih0, ih1, ih2⟩ := ashlarlaw07_truth.mono_l k
    refine ⟨?_, ?_, ?_⟩
    · intro y0 y1 y2 y3 y4 y5
      unfold ashlarlaw07_truth.f
      repeat' first
      | (with_reducible exact ih0 _ _ _ _ _ _)
      | (with_reducible exact ih1 _ _ _ _ _ _ _ _)
      | (with_reducible exact ih2 _ _ _ _ _ _ _ _)
      | (with_reducible exact ashlarref07_Find.mono _ _ _ _ _ _)
      | (with_reducible exact LeO.refl _)
      | (with_reducible exact LeO.none _)
      | (with_reducible refine LeO.ite ?_ ?_)
      | (with_reducible refine LeO.bind ?_ (fun _ => ?_))
      | exact ih0 _ _ _ _ _ _
      | exact ih1 _ _ _ _ _ _ _ _
      | exact ih2 _ _ _ _ _ _ _ _
      | exact ashlarref07_Find.mono _ _ _ _ _ _
      | exact LeO.none _
      | refine LeO.ite ?_ ?_
      | refine LeO.bind ?_ (fun _ => ?_)
    · intro y0 y1 y2 y3 y4 y5 y6 y7
      unfold ashlarlaw07_truth.l0
      repeat' first
      | (with_reducible exact ih0 _ _ _ _ _ _)
      | (with_reducible exact ih1 _ _ _ _ _ _ _ _)
      | (with_reducible exact ih2 _ _ _ _ _ _ _ _)
      | (with_reducible exact ashlarref07_Find.mono _ _ _ _ _ _)
      | (with_reducible exact LeO.refl _)
      | (with_reducible exact LeO.none _)
      | (with_reducible refine LeO.ite ?_ ?_)
      | (with_reducible refine LeO.bind ?_ (fun _ => ?_))
      | exact ih0 _ _ _ _ _ _
      | exact ih1 _ _ _ _ _ _ _ _
      | exact ih2 _ _ _ _ _ _ _ _
      | exact ashlarref07_Find.mono _ _ _ _ _ _
      | exact LeO.none _
      | refine LeO.ite ?_ ?_
      | refine LeO.bind ?_ (fun _ => ?_)
    · intro y0 y1 y2 y3 y4 y5 y6 y7
      unfold ashlarlaw07_truth.l1
      repeat' first
      | (with_reducible exact ih0 _ _ _ _ _ _)
      | (with_reducible exact ih1 _ _ _ _ _ _ _ _)
      | (with_reducible exact ih2 _ _ _ _ _ _ _ _)
      | (with_reducible exact ashlarref07_Find.mono _ _ _ _ _ _)
      | (with_reducible exact LeO.refl _)
      | (with_reducible exact LeO.none _)
      | (with_reducible refine LeO.ite ?_ ?_)
      | (with_reducible refine LeO.bind ?_ (fun _ => ?_))
      | exact ih0 _ _ _ _ _ _
      | exact ih1 _ _ _ _ _ _ _ _
      | exact ih2 _ _ _ _ _ _ _ _
      | exact ashlarref07_Find.mono _ _ _ _ _ _
      | exact LeO.none _
      | refine LeO.ite ?_ ?_
      | refine LeO.bind ?_ (fun _ => ?_)
theorem ashlarlaw07_truth.mono : ∀ a0 a1 a2 a3 a4 a5 k, LeO (ashlarlaw07_truth.f k a0 a1 a2 a3 a4 a5) (ashlarlaw07_truth.f (k + 1) a0 a1 a2 a3 a4 a5) := by
  intro a0 a1 a2 a3 a4 a5 k
  obtain ⟨ih0, ih1, ih2⟩ := ashlarlaw07_truth.mono_l k
  exact ih0 a0 a1 a2 a3 a4 a5
set_option maxHeartbeats 8000000 in
set_option maxRecDepth 100000 in
theorem ashlarlaw07_truth.calls (k : Nat) : ∀ (A0 : Option Addr) (c0 : Nat) (l0 : List (S24)) (a1 : Int) (a2_0 : Int) (a2_1 : ByteArray) (a2_2 : Int) (A2_3 : Option Addr) (c2_3 : Nat) (l2_3 : List (S24)) (r : Bool) (w : World) (hr0 : Kd.C k24 w A0 l0.length l0) (hc0 : l0.length ≤ c0) (hr2_3 : Kd.C k24 w A2_3 l2_3.length l2_3) (hc2_3 : l2_3.length ≤ c2_3) (h : ashlarlaw07_truth.f k l0 a1 a2_0 a2_1 a2_2 l2_3 = some r),
    Calls Tryd.prog 16 #[.slice A0 l0.length c0, .int .u64 a1, .agg #[.int .i64 a2_0, .string a2_1, .int .i64 a2_2, .slice A2_3 l2_3.length c2_3]] w fun e w' => e = .returned (.bool r) ∧ Below w.heap.size w w' := by
  induction k using Nat.strongRecOn with
  | _ k ih =>
  intro A0 c0 l0 a1 a2_0 a2_1 a2_2 A2_3 c2_3 l2_3 r w hr0 hc0 hr2_3 hc2_3 h
  cases k with
  | zero => exact absurd h (by simp [ashlarlaw07_truth.f])
  | succ k =>
  simp only [ashlarlaw07_truth.f] at h
  have hu24 := Tryd.underlying24
  have HR0 := Aside0.mk hr0
  have HC0 := Aside0.mk hc0
  clear hr0 hc0
  have HR2_3 := Aside0.mk hr2_3
  have HC2_3 := Aside0.mk hc2_3
  clear hr2_3 hc2_3
  have HB := Aside0.mk (Below.refl w.heap.size w)
  have H : (if a2_0 = 16 then (some true) else (if a2_0 = 17 then (some false) else (if a2_0 = 18 then (if 0 < (l2_3.length : Int) then ((ashlarlaw07_truth.f k l0 a1 ((rd_T24 l2_3 0).f0) ((rd_T24 l2_3 0).f1) ((rd_T24 l2_3 0).f2) ((rd_T24 l2_3 0).f3)).bind fun t122 => (some (!t122))) else (none)) else (if a2_0 = 21 then (if 0 < (l2_3.length : Int) then ((ashlarlaw07_truth.f k l0 a1 ((rd_T24 l2_3 0).f0) ((rd_T24 l2_3 0).f1) ((rd_T24 l2_3 0).f2) ((rd_T24 l2_3 0).f3)).bind fun t124 => (if t124 = true then (if 1 < (l2_3.length : Int) then ((ashlarlaw07_truth.f k l0 a1 ((rd_T24 l2_3 1).f0) ((rd_T24 l2_3 1).f1) ((rd_T24 l2_3 1).f2) ((rd_T24 l2_3 1).f3)).bind fun t126 => (some t126)) else (none)) else (some true))) else (none)) else (if a2_0 = 19 then (ashlarlaw07_truth.l0 k l0 a1 true 0 a2_0 a2_1 a2_2 l2_3) else (if a2_0 = 20 then (ashlarlaw07_truth.l1 k l0 a1 false 0 a2_0 a2_1 a2_2 l2_3) else ((ashlarref07_Find.f k l0 a2_0 a2_1 a2_2 l2_3).bind fun t131 => (if 0 ≤ (IntKind.u64.wrap (t131)) then (some ((Go.bits .and .u64 (shr .u64 a1 (IntKind.u64.wrap (t131))) 1) == 1)) else (none))))))))) = some r := h
  clear h
  by_cases c4 : a2_0 = 16
  · rw [if_pos c4] at H
    have c4b0 : (a2_0 == 16) = true := beq_iff_eq.mpr c4
    have c4b1 : (a2_0 != 16) = false := bne_eq_false_iff_eq.mpr c4
    clear c4
    obtain rfl := Option.some.inj H
    go_enter Tryd.func16, Tryd.ntmps16
    go_wp2_with (first | ((with_reducible refine gate_dst (N := 5) rfl ?_); refine box_event ?hg (N := 5) ?hd (cs := #[.int .i64 a2_0, .string a2_1, .int .i64 a2_2, .slice A2_3 l2_3.length c2_3]) (t := 24) ?hr ?_; (case hd => rfl); (case hg => rfl); (case hr => first | (go_simp; done) | (go_simp; rfl)); intro gb120 hg w5 hbox hb; have n0_ := Aside0.mk (below_step (by repeat (first | (with_reducible first | exact HB.out | apply below_alloc | apply pw_below_drewN | apply below_drew1) | exact HB.out)) hb); have n1_ := Aside0.mk (hbox); have n2_ := Aside0.mk ((by rw [hg]; exact (below_size (by repeat (first | (with_reducible first | exact HB.out | apply below_alloc | apply pw_below_drewN | apply below_drew1) | exact HB.out))) : w.heap.size ≤ gb120)); have n3_ := Aside0.mk ((by rw [hg]; exact (below_size (by repeat (first | (with_reducible first | exact HB.out | apply below_alloc | apply pw_below_drewN | apply below_drew1) | exact HB.out))) : w.heap.size ≤ gb120)); clear HB; have HB := n0_; have BK120 := n1_; have GW120 := n2_; have GE120 := n3_; clear n0_ n1_ n2_ n3_; clear hb hbox hg; have hcz6_0 : w5.cell? ⟨gb120, 0, none⟩ = some (.int .i64 a2_0) := (blk_cell BK120.out 0).trans rfl; have hcz6_1 : w5.cell? ⟨gb120, 1, none⟩ = some (.string a2_1) := (blk_cell BK120.out 1).trans rfl; have hcz6_2 : w5.cell? ⟨gb120, 2, none⟩ = some (.int .i64 a2_2) := (blk_cell BK120.out 2).trans rfl; have hcz6_3 : w5.cell? ⟨gb120, 3, none⟩ = some (.slice A2_3 l2_3.length c2_3) := (blk_cell BK120.out 3).trans rfl; have hfz6_0 := blk_frozen BK120.out 0; have hfz6_1 := blk_frozen BK120.out 1; have hfz6_2 := blk_frozen BK120.out 2; have hfz6_3 := blk_frozen BK120.out 3))
    go_ret
    exact ⟨by first | rfl | (simp [errW_none, errW_some] <;> rfl) | (simp [*, errW_none, errW_some] <;> rfl), by repeat (first | (with_reducible first | exact HB.out | apply below_alloc | apply pw_below_drewN | apply below_drew1 | refine below_set ?_ GE120.out) | exact HB.out)⟩
  · rw [if_neg c4] at H
    have c4b0 : (a2_0 == 16) = false := beq_eq_false_iff_ne.mpr c4
    have c4b1 : (a2_0 != 16) = true := bne_iff_ne.mpr c4
    by_cases c7 : a2_0 = 17
    · rw [if_pos c7] at H
      have c7b0 : (a2_0 == 17) = true := beq_iff_eq.mpr c7
      have c7b1 : (a2_0 != 17) = false := bne_eq_false_iff_eq.mpr c7
      clear c7
      obtain rfl := Option.some.inj H
      go_enter Tryd.func16, Tryd.ntmps16
      go_wp2_with (first | ((with_reducible refine gate_dst (N := 5) rfl ?_); refine box_event ?hg (N := 5) ?hd (cs := #[.int .i64 a2_0, .string a2_1, .int .i64 a2_2, .slice A2_3 l2_3.length c2_3]) (t := 24) ?hr ?_; (case hd => rfl); (case hg => rfl); (case hr => first | (go_simp; done) | (go_simp; rfl)); intro gb120 hg w8 hbox hb; have n0_ := Aside0.mk (below_step (by repeat (first | (with_reducible first | exact HB.out | apply below_alloc | apply pw_below_drewN | apply below_drew1) | exact HB.out)) hb); have n1_ := Aside0.mk (hbox); have n2_ := Aside0.mk ((by rw [hg]; exact (below_size (by repeat (first | (with_reducible first | exact HB.out | apply below_alloc | apply pw_below_drewN | apply below_drew1) | exact HB.out))) : w.heap.size ≤ gb120)); have n3_ := Aside0.mk ((by rw [hg]; exact (below_size (by repeat (first | (with_reducible first | exact HB.out | apply below_alloc | apply pw_below_drewN | apply below_drew1) | exact HB.out))) : w.heap.size ≤ gb120)); clear HB; have HB := n0_; have BK120 := n1_; have GW120 := n2_; have GE120 := n3_; clear n0_ n1_ n2_ n3_; clear hb hbox hg; have hcz9_0 : w8.cell? ⟨gb120, 0, none⟩ = some (.int .i64 a2_0) := (blk_cell BK120.out 0).trans rfl; have hcz9_1 : w8.cell? ⟨gb120, 1, none⟩ = some (.string a2_1) := (blk_cell BK120.out 1).trans rfl; have hcz9_2 : w8.cell? ⟨gb120, 2, none⟩ = some (.int .i64 a2_2) := (blk_cell BK120.out 2).trans rfl; have hcz9_3 : w8.cell? ⟨gb120, 3, none⟩ = some (.slice A2_3 l2_3.length c2_3) := (blk_cell BK120.out 3).trans rfl; have hfz9_0 := blk_frozen BK120.out 0; have hfz9_1 := blk_frozen BK120.out 1; have hfz9_2 := blk_frozen BK120.out 2; have hfz9_3 := blk_frozen BK120.out 3))
      go_ret
      exact ⟨by first | rfl | (simp [errW_none, errW_some] <;> rfl) | (simp [*, errW_none, errW_some] <;> rfl), by repeat (first | (with_reducible first | exact HB.out | apply below_alloc | apply pw_below_drewN | apply below_drew1 | refine below_set ?_ GE120.out) | exact HB.out)⟩
    · rw [if_neg c7] at H
      have c7b0 : (a2_0 == 17) = false := beq_eq_false_iff_ne.mpr c7
      have c7b1 : (a2_0 != 17) = true := bne_iff_ne.mpr c7
      by_cases c10 : a2_0 = 18
      · rw [if_pos c10] at H
        have c10b0 : (a2_0 == 18) = true := beq_iff_eq.mpr c10
        have c10b1 : (a2_0 != 18) = false := bne_eq_false_iff_eq.mpr c10
        clear c10
        by_cases c11 : 0 < (l2_3.length : Int)
        · rw [if_pos c11] at H
          have c11b0 : decide (0 < (l2_3.length : Int)) = true := decide_eq_true c11
          have c11b1 : decide (0 < l2_3.length) = true := decide_eq_true (by omega)
          clear c11
          replace H := Option.bind_eq_some_iff.mp H
          obtain ⟨t122, A120, H⟩ := H
          replace H : (some (!t122)) = some r := H
          have A12 := Aside0.mk A120
          clear A120
          obtain rfl := Option.some.inj H
          go_enter Tryd.func16, Tryd.ntmps16
          go_wp2_with (first | ((with_reducible refine gate_dst (N := 5) rfl ?_); refine box_event ?hg (N := 5) ?hd (cs := #[.int .i64 a2_0, .string a2_1, .int .i64 a2_2, .slice A2_3 l2_3.length c2_3]) (t := 24) ?hr ?_; (case hd => rfl); (case hg => rfl); (case hr => first | (go_simp; done) | (go_simp; rfl)); intro gb120 hg w13 hbox hb; have n0_ := Aside0.mk (below_step (by repeat (first | (with_reducible first | exact HB.out | apply below_alloc | apply pw_below_drewN | apply below_drew1) | exact HB.out)) hb); have n1_ := Aside0.mk (hbox); have n2_ := Aside0.mk ((by rw [hg]; exact (below_size (by repeat (first | (with_reducible first | exact HB.out | apply below_alloc | apply pw_below_drewN | apply below_drew1) | exact HB.out))) : w.heap.size ≤ gb120)); have n3_ := Aside0.mk ((by rw [hg]; exact (below_size (by repeat (first | (with_reducible first | exact HB.out | apply below_alloc | apply pw_below_drewN | apply below_drew1) | exact HB.out))) : w.heap.size ≤ gb120)); clear HB; have HB := n0_; have BK120 := n1_; have GW120 := n2_; have GE120 := n3_; clear n0_ n1_ n2_ n3_; clear hb hbox hg; have hcz14_0 : w13.cell? ⟨gb120, 0, none⟩ = some (.int .i64 a2_0) := (blk_cell BK120.out 0).trans rfl; have hcz14_1 : w13.cell? ⟨gb120, 1, none⟩ = some (.string a2_1) := (blk_cell BK120.out 1).trans rfl; have hcz14_2 : w13.cell? ⟨gb120, 2, none⟩ = some (.int .i64 a2_2) := (blk_cell BK120.out 2).trans rfl; have hcz14_3 : w13.cell? ⟨gb120, 3, none⟩ = some (.slice A2_3 l2_3.length c2_3) := (blk_cell BK120.out 3).trans rfl; have hfz14_0 := blk_frozen BK120.out 0; have hfz14_1 := blk_frozen BK120.out 1; have hfz14_2 := blk_frozen BK120.out 2; have hfz14_3 := blk_frozen BK120.out 3; have p121 : 0 ≤ (0 : Int) := (by omega); have q121 : 0 < (l2_3.length : Int) := of_decide_eq_true (by first | (with_reducible assumption) | assumption); obtain ⟨ad121, A121_3, c121_3, e121, hx121_0, hx121_1, hx121_2, hx121_3, hl121_3, hi121_3⟩ := at_T24 HR2_3.out 0 p121 q121; cases e121; have qi121 : (0 < l2_3.length) = True := eq_true (by omega); (try rw [show ((0 : Int)).toNat = 0 from rfl] at hx121_0); (try rw [show 0 * 4 = 0 from rfl] at hx121_0); (try rw [Addr.add_zero'] at hx121_0); (try rw [show ((0 : Int)).toNat = 0 from rfl] at hx121_1); (try rw [show 0 * 4 = 0 from rfl] at hx121_1); (try rw [Addr.add_zero'] at hx121_1); (try rw [show ((0 : Int)).toNat = 0 from rfl] at hx121_2); (try rw [show 0 * 4 = 0 from rfl] at hx121_2); (try rw [Addr.add_zero'] at hx121_2); (try rw [show ((0 : Int)).toNat = 0 from rfl] at hx121_3); (try rw [show 0 * 4 = 0 from rfl] at hx121_3); (try rw [Addr.add_zero'] at hx121_3); replace hx121_0 := (HB.out.cell (World.block_lt_of_cell? w _ hx121_0)).trans hx121_0; replace hx121_1 := (HB.out.cell (World.block_lt_of_cell? w _ hx121_1)).trans hx121_1; replace hx121_2 := (HB.out.cell (World.block_lt_of_cell? w _ hx121_2)).trans hx121_2; replace hx121_3 := (HB.out.cell (World.block_lt_of_cell? w _ hx121_3)).trans hx121_3; have HR121_3 := Aside0.mk hi121_3; have HC121_3 := Aside0.mk hl121_3; clear hi121_3 hl121_3; replace p121 := eq_true p121; replace q121 := eq_true q121) | ((with_reducible refine gate_callee (f := 16) rfl ?_); refine goesL_ (some 27) rfl rfl Tryd.func16 (by kernel_rfl) rfl #[.slice A0 l0.length c0, .int .u64 a1, .agg #[.int .i64 ((rd_T24 l2_3 0).f0), .string ((rd_T24 l2_3 0).f1), .int .i64 ((rd_T24 l2_3 0).f2), .slice A121_3 ((rd_T24 l2_3 0).f3).length c121_3]] rfl (by (try simp only [List.map_toArray, List.map_cons, List.map_nil]); first | done | rfl | (simp only [List.length_drop, List.length_take]; rfl)) ?_; (with_reducible refine (ih k (by omega) _ _ l0 a1 ((rd_T24 l2_3 0).f0) ((rd_T24 l2_3 0).f1) ((rd_T24 l2_3 0).f2) _ _ ((rd_T24 l2_3 0).f3) t122 _ ?side1 ?side2 ?side3 ?side4 A12.out).mono ?_); (case side1 => repeat (first | exact (Kd.C_below HR0.out HB.out) | (with_reducible refine Kd.C_alloc ?_ _) | (with_reducible refine Kd.C_drewN ?_ _) | (with_reducible refine Kd.C_drew ?_))); (case side2 => exact HC0.out); (case side3 => repeat (first | exact (Kd.C_below HR121_3.out HB.out) | (with_reducible refine Kd.C_alloc ?_ _) | (with_reducible refine Kd.C_drewN ?_ _) | (with_reducible refine Kd.C_drew ?_))); (case side4 => exact HC121_3.out); rintro e w15 ⟨rfl, hb⟩; refine ⟨_, rfl, ?_⟩; have n0_ := Aside0.mk (blk_below (g := gb120) (o := .cells #[.int .i64 a2_0, .string a2_1, .int .i64 a2_2, .slice (some ad121) l2_3.length c2_3] 24 (0, 0)) (by (with_reducible repeat (first | refine blk_drewN ?_ _ | refine blk_drew ?_ | refine blk_alloc ?_ _)); exact BK120.out) hb); have n1_ := Aside0.mk (below_step (by repeat (first | (with_reducible first | exact HB.out | apply below_alloc | apply pw_below_drewN | apply below_drew1 | refine below_set ?_ GE120.out) | exact HB.out)) hb); clear BK120; clear HB; have BK120 := n0_; have HB := n1_; clear n0_ n1_; (try clear hb); (try clear hb2); (try clear hk); (try clear hi)))
          go_ret
          exact ⟨by first | rfl | (simp [errW_none, errW_some] <;> rfl) | (simp [*, errW_none, errW_some] <;> rfl), by repeat (first | (with_reducible first | exact HB.out | apply below_alloc | apply pw_below_drewN | apply below_drew1 | refine below_set ?_ GE120.out) | exact HB.out)⟩
        · rw [if_neg c11] at H
          exact absurd H (by simp)
      · rw [if_neg c10] at H
        have c10b0 : (a2_0 == 18) = false := beq_eq_false_iff_ne.mpr c10
        have c10b1 : (a2_0 != 18) = true := bne_iff_ne.mpr c10
        by_cases c16 : a2_0 = 21
        · rw [if_pos c16] at H
          have c16b0 : (a2_0 == 21) = true := beq_iff_eq.mpr c16
          have c16b1 : (a2_0 != 21) = false := bne_eq_false_iff_eq.mpr c16
          clear c16
          by_cases c17 : 0 < (l2_3.length : Int)
          · rw [if_pos c17] at H
            have c17b0 : decide (0 < (l2_3.length : Int)) = true := decide_eq_true c17
            have c17b1 : decide (0 < l2_3.length) = true := decide_eq_true (by omega)
            clear c17
            replace H := Option.bind_eq_some_iff.mp H
            obtain ⟨t124, A180, H⟩ := H
            replace H : (if t124 = true then (if 1 < (l2_3.length : Int) then ((ashlarlaw07_truth.f k l0 a1 ((rd_T24 l2_3 1).f0) ((rd_T24 l2_3 1).f1) ((rd_T24 l2_3 1).f2) ((rd_T24 l2_3 1).f3)).bind fun t126 => (some t126)) else (none)) else (some true)) = some r := H
            have A18 := Aside0.mk A180
            clear A180
            by_cases c19 : t124 = true
            · subst c19
              have H1 : (if 1 < (l2_3.length : Int) then ((ashlarlaw07_truth.f k l0 a1 ((rd_T24 l2_3 1).f0) ((rd_T24 l2_3 1).f1) ((rd_T24 l2_3 1).f2) ((rd_T24 l2_3 1).f3)).bind fun t126 => (some t126)) else (none)) = some r := by rw [if_pos rfl] at H; exact H
              clear H
              have H := H1
              clear H1
              by_cases c20 : 1 < (l2_3.length : Int)
              · rw [if_pos c20] at H
                have c20b0 : decide (1 < (l2_3.length : Int)) = true := decide_eq_true c20
                have c20b1 : decide (1 < l2_3.length) = true := decide_eq_true (by omega)
                clear c20
                replace H := Option.bind_eq_some_iff.mp H
                obtain ⟨t126, A210, H⟩ := H
                replace H : (some t126) = some r := H
                have A21 := Aside0.mk A210
                clear A210
                obtain rfl := Option.some.inj H
                go_enter Tryd.func16, Tryd.ntmps16
                go_wp2_with (first | ((with_reducible refine gate_dst (N := 5) rfl ?_); refine box_event ?hg (N := 5) ?hd (cs := #[.int .i64 a2_0, .string a2_1, .int .i64 a2_2, .slice A2_3 l2_3.length c2_3]) (t := 24) ?hr ?_; (case hd => rfl); (case hg => rfl); (case hr => first | (go_simp; done) | (go_simp; rfl)); intro gb120 hg w22 hbox hb; have n0_ := Aside0.mk (below_step (by repeat (first | (with_reducible first | exact HB.out | apply below_alloc | apply pw_below_drewN | apply below_drew1) | exact HB.out)) hb); have n1_ := Aside0.mk (hbox); have n2_ := Aside0.mk ((by rw [hg]; exact (below_size (by repeat (first | (with_reducible first | exact HB.out | apply below_alloc | apply pw_below_drewN | apply below_drew1) | exact HB.out))) : w.heap.size ≤ gb120)); have n3_ := Aside0.mk ((by rw [hg]; exact (below_size (by repeat (first | (with_reducible first | exact HB.out | apply below_alloc | apply pw_below_drewN | apply below_drew1) | exact HB.out))) : w.heap.size ≤ gb120)); clear HB; have HB := n0_; have BK120 := n1_; have GW120 := n2_; have GE120 := n3_; clear n0_ n1_ n2_ n3_; clear hb hbox hg; have hcz23_0 : w22.cell? ⟨gb120, 0, none⟩ = some (.int .i64 a2_0) := (blk_cell BK120.out 0).trans rfl; have hcz23_1 : w22.cell? ⟨gb120, 1, none⟩ = some (.string a2_1) := (blk_cell BK120.out 1).trans rfl; have hcz23_2 : w22.cell? ⟨gb120, 2, none⟩ = some (.int .i64 a2_2) := (blk_cell BK120.out 2).trans rfl; have hcz23_3 : w22.cell? ⟨gb120, 3, none⟩ = some (.slice A2_3 l2_3.length c2_3) := (blk_cell BK120.out 3).trans rfl; have hfz23_0 := blk_frozen BK120.out 0; have hfz23_1 := blk_frozen BK120.out 1; have hfz23_2 := blk_frozen BK120.out 2; have hfz23_3 := blk_frozen BK120.out 3; have p123 : 0 ≤ (0 : Int) := (by omega); have q123 : 0 < (l2_3.length : Int) := of_decide_eq_true (by first | (with_reducible assumption) | assumption); obtain ⟨ad123, A123_3, c123_3, e123, hx123_0, hx123_1, hx123_2, hx123_3, hl123_3, hi123_3⟩ := at_T24 HR2_3.out 0 p123 q123; cases e123; have qi123 : (0 < l2_3.length) = True := eq_true (by omega); (try rw [show ((0 : Int)).toNat = 0 from rfl] at hx123_0); (try rw [show 0 * 4 = 0 from rfl] at hx123_0); (try rw [Addr.add_zero'] at hx123_0); (try rw [show ((0 : Int)).toNat = 0 from rfl] at hx123_1); (try rw [show 0 * 4 = 0 from rfl] at hx123_1); (try rw [Addr.add_zero'] at hx123_1); (try rw [show ((0 : Int)).toNat = 0 from rfl] at hx123_2); (try rw [show 0 * 4 = 0 from rfl] at hx123_2); (try rw [Addr.add_zero'] at hx123_2); (try rw [show ((0 : Int)).toNat = 0 from rfl] at hx123_3); (try rw [show 0 * 4 = 0 from rfl] at hx123_3); (try rw [Addr.add_zero'] at hx123_3); replace hx123_0 := (HB.out.cell (World.block_lt_of_cell? w _ hx123_0)).trans hx123_0; replace hx123_1 := (HB.out.cell (World.block_lt_of_cell? w _ hx123_1)).trans hx123_1; replace hx123_2 := (HB.out.cell (World.block_lt_of_cell? w _ hx123_2)).trans hx123_2; replace hx123_3 := (HB.out.cell (World.block_lt_of_cell? w _ hx123_3)).trans hx123_3; have HR123_3 := Aside0.mk hi123_3; have HC123_3 := Aside0.mk hl123_3; clear hi123_3 hl123_3; replace p123 := eq_true p123; replace q123 := eq_true q123) | ((with_reducible refine gate_callee (f := 16) rfl ?_); refine goesL_ (some 37) rfl rfl Tryd.func16 (by kernel_rfl) rfl #[.slice A0 l0.length c0, .int .u64 a1, .agg #[.int .i64 ((rd_T24 l2_3 0).f0), .string ((rd_T24 l2_3 0).f1), .int .i64 ((rd_T24 l2_3 0).f2), .slice A123_3 ((rd_T24 l2_3 0).f3).length c123_3]] rfl (by (try simp only [List.map_toArray, List.map_cons, List.map_nil]); first | done | rfl | (simp only [List.length_drop, List.length_take]; rfl)) ?_; (with_reducible refine (ih k (by omega) _ _ l0 a1 ((rd_T24 l2_3 0).f0) ((rd_T24 l2_3 0).f1) ((rd_T24 l2_3 0).f2) _ _ ((rd_T24 l2_3 0).f3) true _ ?side1 ?side2 ?side3 ?side4 A18.out).mono ?_); (case side1 => repeat (first | exact (Kd.C_below HR0.out HB.out) | (with_reducible refine Kd.C_alloc ?_ _) | (with_reducible refine Kd.C_drewN ?_ _) | (with_reducible refine Kd.C_drew ?_))); (case side2 => exact HC0.out); (case side3 => repeat (first | exact (Kd.C_below HR123_3.out HB.out) | (with_reducible refine Kd.C_alloc ?_ _) | (with_reducible refine Kd.C_drewN ?_ _) | (with_reducible refine Kd.C_drew ?_))); (case side4 => exact HC123_3.out); rintro e w24 ⟨rfl, hb⟩; refine ⟨_, rfl, ?_⟩; have n0_ := Aside0.mk (blk_below (g := gb120) (o := .cells #[.int .i64 a2_0, .string a2_1, .int .i64 a2_2, .slice (some ad123) l2_3.length c2_3] 24 (0, 0)) (by (with_reducible repeat (first | refine blk_drewN ?_ _ | refine blk_drew ?_ | refine blk_alloc ?_ _)); exact BK120.out) hb); have n1_ := Aside0.mk (below_step (by repeat (first | (with_reducible first | exact HB.out | apply below_alloc | apply pw_below_drewN | apply below_drew1 | refine below_set ?_ GE120.out) | exact HB.out)) hb); clear BK120; clear HB; have BK120 := n0_; have HB := n1_; clear n0_ n1_; (try clear hb); (try clear hb2); (try clear hk); (try clear hi); have hcz25_0 : w24.cell? ⟨gb120, 0, none⟩ = some (.int .i64 a2_0) := (blk_cell BK120.out 0).trans rfl; have hcz25_1 : w24.cell? ⟨gb120, 1, none⟩ = some (.string a2_1) := (blk_cell BK120.out 1).trans rfl; have hcz25_2 : w24.cell? ⟨gb120, 2, none⟩ = some (.int .i64 a2_2) := (blk_cell BK120.out 2).trans rfl; have hcz25_3 : w24.cell? ⟨gb120, 3, none⟩ = some (.slice (some ad123) l2_3.length c2_3) := (blk_cell BK120.out 3).trans rfl; have hfz25_0 := blk_frozen BK120.out 0; have hfz25_1 := blk_frozen BK120.out 1; have hfz25_2 := blk_frozen BK120.out 2; have hfz25_3 := blk_frozen BK120.out 3; have p125 : 0 ≤ (1 : Int) := (by omega); have q125 : 1 < (l2_3.length : Int) := of_decide_eq_true (by first | (with_reducible assumption) | assumption); obtain ⟨ad125, A125_3, c125_3, e125, hx125_0, hx125_1, hx125_2, hx125_3, hl125_3, hi125_3⟩ := at_T24 HR2_3.out 1 p125 q125; obtain rfl : ad123 = ad125 := (by injection e125); (try simp only [show (1 : Int).toNat = 1 from rfl, Nat.reduceMul, Nat.reduceEqDiff, Go.Addr.add, ↓reduceIte] at hx125_0); (try simp only [show (1 : Int).toNat = 1 from rfl, Nat.reduceMul, Nat.reduceEqDiff, Go.Addr.add, ↓reduceIte] at hx125_1); (try simp only [show (1 : Int).toNat = 1 from rfl, Nat.reduceMul, Nat.reduceEqDiff, Go.Addr.add, ↓reduceIte] at hx125_2); (try simp only [show (1 : Int).toNat = 1 from rfl, Nat.reduceMul, Nat.reduceEqDiff, Go.Addr.add, ↓reduceIte] at hx125_3); have qi125 : (1 < l2_3.length) = True := eq_true (by omega); (try rw [show ((1 : Int)).toNat = 1 from rfl] at hx125_0); (try rw [show 1 * 4 = 4 from rfl] at hx125_0); (try rw [show ((1 : Int)).toNat = 1 from rfl] at hx125_1); (try rw [show 1 * 4 = 4 from rfl] at hx125_1); (try rw [show ((1 : Int)).toNat = 1 from rfl] at hx125_2); (try rw [show 1 * 4 = 4 from rfl] at hx125_2); (try rw [show ((1 : Int)).toNat = 1 from rfl] at hx125_3); (try rw [show 1 * 4 = 4 from rfl] at hx125_3); replace hx125_0 := (HB.out.cell (World.block_lt_of_cell? w _ hx125_0)).trans hx125_0; replace hx125_1 := (HB.out.cell (World.block_lt_of_cell? w _ hx125_1)).trans hx125_1; replace hx125_2 := (HB.out.cell (World.block_lt_of_cell? w _ hx125_2)).trans hx125_2; replace hx125_3 := (HB.out.cell (World.block_lt_of_cell? w _ hx125_3)).trans hx125_3; have HR125_3 := Aside0.mk hi125_3; have HC125_3 := Aside0.mk hl125_3; clear hi125_3 hl125_3; replace p125 := eq_true p125; replace q125 := eq_true q125) | (go_at_call 16; (with_reducible refine (ih k (by omega) _ _ l0 a1 ((rd_T24 l2_3 1).f0) ((rd_T24 l2_3 1).f1) ((rd_T24 l2_3 1).f2) _ _ ((rd_T24 l2_3 1).f3) t126 _ ?side1 ?side2 ?side3 ?side4 A21.out).mono ?_); (case side1 => repeat (first | exact (Kd.C_below HR0.out HB.out) | (with_reducible refine Kd.C_alloc ?_ _) | (with_reducible refine Kd.C_drewN ?_ _) | (with_reducible refine Kd.C_drew ?_))); (case side2 => exact HC0.out); (case side3 => repeat (first | exact (Kd.C_below HR125_3.out HB.out) | (with_reducible refine Kd.C_alloc ?_ _) | (with_reducible refine Kd.C_drewN ?_ _) | (with_reducible refine Kd.C_drew ?_))); (case side4 => exact HC125_3.out); rintro e w26 ⟨rfl, hb⟩; have n0_ := Aside0.mk (blk_below (g := gb120) (o := .cells #[.int .i64 a2_0, .string a2_1, .int .i64 a2_2, .slice (some ad123) l2_3.length c2_3] 24 (0, 0)) (by (with_reducible repeat (first | refine blk_drewN ?_ _ | refine blk_drew ?_ | refine blk_alloc ?_ _)); exact BK120.out) hb); have n1_ := Aside0.mk (below_step (by repeat (first | (with_reducible first | exact HB.out | apply below_alloc | apply pw_below_drewN | apply below_drew1 | refine below_set ?_ GE120.out) | exact HB.out)) hb); clear BK120; clear HB; have BK120 := n0_; have HB := n1_; clear n0_ n1_; (try clear hb); (try clear hb2); (try clear hk); (try clear hi)))
                go_ret
                exact ⟨by first | rfl | (simp [errW_none, errW_some] <;> rfl) | (simp [*, errW_none, errW_some] <;> rfl), by repeat (first | (with_reducible first | exact HB.out | apply below_alloc | apply pw_below_drewN | apply below_drew1 | refine below_set ?_ GE120.out) | exact HB.out)⟩
              · rw [if_neg c20] at H
                exact absurd H (by simp)
            · replace c19 := Bool.eq_false_iff.mpr c19
              subst c19
              have H1 : (some true) = some r := by rw [if_neg (show ¬ (false = true) by decide)] at H; exact H
              clear H
              have H := H1
              clear H1
              obtain rfl := Option.some.inj H
              go_enter Tryd.func16, Tryd.ntmps16
              go_wp2_with (first | ((with_reducible refine gate_dst (N := 5) rfl ?_); refine box_event ?hg (N := 5) ?hd (cs := #[.int .i64 a2_0, .string a2_1, .int .i64 a2_2, .slice A2_3 l2_3.length c2_3]) (t := 24) ?hr ?_; (case hd => rfl); (case hg => rfl); (case hr => first | (go_simp; done) | (go_simp; rfl)); intro gb120 hg w27 hbox hb; have n0_ := Aside0.mk (below_step (by repeat (first | (with_reducible first | exact HB.out | apply below_alloc | apply pw_below_drewN | apply below_drew1) | exact HB.out)) hb); have n1_ := Aside0.mk (hbox); have n2_ := Aside0.mk ((by rw [hg]; exact (below_size (by repeat (first | (with_reducible first | exact HB.out | apply below_alloc | apply pw_below_drewN | apply below_drew1) | exact HB.out))) : w.heap.size ≤ gb120)); have n3_ := Aside0.mk ((by rw [hg]; exact (below_size (by repeat (first | (with_reducible first | exact HB.out | apply below_alloc | apply pw_below_drewN | apply below_drew1) | exact HB.out))) : w.heap.size ≤ gb120)); clear HB; have HB := n0_; have BK120 := n1_; have GW120 := n2_; have GE120 := n3_; clear n0_ n1_ n2_ n3_; clear hb hbox hg; have hcz28_0 : w27.cell? ⟨gb120, 0, none⟩ = some (.int .i64 a2_0) := (blk_cell BK120.out 0).trans rfl; have hcz28_1 : w27.cell? ⟨gb120, 1, none⟩ = some (.string a2_1) := (blk_cell BK120.out 1).trans rfl; have hcz28_2 : w27.cell? ⟨gb120, 2, none⟩ = some (.int .i64 a2_2) := (blk_cell BK120.out 2).trans rfl; have hcz28_3 : w27.cell? ⟨gb120, 3, none⟩ = some (.slice A2_3 l2_3.length c2_3) := (blk_cell BK120.out 3).trans rfl; have hfz28_0 := blk_frozen BK120.out 0; have hfz28_1 := blk_frozen BK120.out 1; have hfz28_2 := blk_frozen BK120.out 2; have hfz28_3 := blk_frozen BK120.out 3; have p123 : 0 ≤ (0 : Int) := (by omega); have q123 : 0 < (l2_3.length : Int) := of_decide_eq_true (by first | (with_reducible assumption) | assumption); obtain ⟨ad123, A123_3, c123_3, e123, hx123_0, hx123_1, hx123_2, hx123_3, hl123_3, hi123_3⟩ := at_T24 HR2_3.out 0 p123 q123; cases e123; have qi123 : (0 < l2_3.length) = True := eq_true (by omega); (try rw [show ((0 : Int)).toNat = 0 from rfl] at hx123_0); (try rw [show 0 * 4 = 0 from rfl] at hx123_0); (try rw [Addr.add_zero'] at hx123_0); (try rw [show ((0 : Int)).toNat = 0 from rfl] at hx123_1); (try rw [show 0 * 4 = 0 from rfl] at hx123_1); (try rw [Addr.add_zero'] at hx123_1); (try rw [show ((0 : Int)).toNat = 0 from rfl] at hx123_2); (try rw [show 0 * 4 = 0 from rfl] at hx123_2); (try rw [Addr.add_zero'] at hx123_2); (try rw [show ((0 : Int)).toNat = 0 from rfl] at hx123_3); (try rw [show 0 * 4 = 0 from rfl] at hx123_3); (try rw [Addr.add_zero'] at hx123_3); replace hx123_0 := (HB.out.cell (World.block_lt_of_cell? w _ hx123_0)).trans hx123_0; replace hx123_1 := (HB.out.cell (World.block_lt_of_cell? w _ hx123_1)).trans hx123_1; replace hx123_2 := (HB.out.cell (World.block_lt_of_cell? w _ hx123_2)).trans hx123_2; replace hx123_3 := (HB.out.cell (World.block_lt_of_cell? w _ hx123_3)).trans hx123_3; have HR123_3 := Aside0.mk hi123_3; have HC123_3 := Aside0.mk hl123_3; clear hi123_3 hl123_3; replace p123 := eq_true p123; replace q123 := eq_true q123) | ((with_reducible refine gate_callee (f := 16) rfl ?_); refine goesL_ (some 37) rfl rfl Tryd.func16 (by kernel_rfl) rfl #[.slice A0 l0.length c0, .int .u64 a1, .agg #[.int .i64 ((rd_T24 l2_3 0).f0), .string ((rd_T24 l2_3 0).f1), .int .i64 ((rd_T24 l2_3 0).f2), .slice A123_3 ((rd_T24 l2_3 0).f3).length c123_3]] rfl (by (try simp only [List.map_toArray, List.map_cons, List.map_nil]); first | done | rfl | (simp only [List.length_drop, List.length_take]; rfl)) ?_; (with_reducible refine (ih k (by omega) _ _ l0 a1 ((rd_T24 l2_3 0).f0) ((rd_T24 l2_3 0).f1) ((rd_T24 l2_3 0).f2) _ _ ((rd_T24 l2_3 0).f3) false _ ?side1 ?side2 ?side3 ?side4 A18.out).mono ?_); (case side1 => repeat (first | exact (Kd.C_below HR0.out HB.out) | (with_reducible refine Kd.C_alloc ?_ _) | (with_reducible refine Kd.C_drewN ?_ _) | (with_reducible refine Kd.C_drew ?_))); (case side2 => exact HC0.out); (case side3 => repeat (first | exact (Kd.C_below HR123_3.out HB.out) | (with_reducible refine Kd.C_alloc ?_ _) | (with_reducible refine Kd.C_drewN ?_ _) | (with_reducible refine Kd.C_drew ?_))); (case side4 => exact HC123_3.out); rintro e w29 ⟨rfl, hb⟩; refine ⟨_, rfl, ?_⟩; have n0_ := Aside0.mk (blk_below (g := gb120) (o := .cells #[.int .i64 a2_0, .string a2_1, .int .i64 a2_2, .slice (some ad123) l2_3.length c2_3] 24 (0, 0)) (by (with_reducible repeat (first | refine blk_drewN ?_ _ | refine blk_drew ?_ | refine blk_alloc ?_ _)); exact BK120.out) hb); have n1_ := Aside0.mk (below_step (by repeat (first | (with_reducible first | exact HB.out | apply below_alloc | apply pw_below_drewN | apply below_drew1 | refine below_set ?_ GE120.out) | exact HB.out)) hb); clear BK120; clear HB; have BK120 := n0_; have HB := n1_; clear n0_ n1_; (try clear hb); (try clear hb2); (try clear hk); (try clear hi)))
              go_ret
              exact ⟨by first | rfl | (simp [errW_none, errW_some] <;> rfl) | (simp [*, errW_none, errW_some] <;> rfl), by repeat (first | (with_reducible first | exact HB.out | apply below_alloc | apply pw_below_drewN | apply below_drew1 | refine below_set ?_ GE120.out) | exact HB.out)⟩
          · rw [if_neg c17] at H
            exact absurd H (by simp)
        · rw [if_neg c16] at H
          have c16b0 : (a2_0 == 21) = false := beq_eq_false_iff_ne.mpr c16
          have c16b1 : (a2_0 != 21) = true := bne_iff_ne.mpr c16
          by_cases c30 : a2_0 = 19
          · rw [if_pos c30] at H
            have c30b0 : (a2_0 == 19) = true := beq_iff_eq.mpr c30
            have c30b1 : (a2_0 != 19) = false := bne_eq_false_iff_eq.mpr c30
            clear c30
            have H' := Aside0.mk H
            clear H
            go_enter Tryd.func16, Tryd.ntmps16
            go_wp2_with (first | ((with_reducible refine gate_dst (N := 5) rfl ?_); refine box_event ?hg (N := 5) ?hd (cs := #[.int .i64 a2_0, .string a2_1, .int .i64 a2_2, .slice A2_3 l2_3.length c2_3]) (t := 24) ?hr ?_; (case hd => rfl); (case hg => rfl); (case hr => first | (go_simp; done) | (go_simp; rfl)); intro gb120 hg w31 hbox hb; have n0_ := Aside0.mk (below_step (by repeat (first | (with_reducible first | exact HB.out | apply below_alloc | apply pw_below_drewN | apply below_drew1) | exact HB.out)) hb); have n1_ := Aside0.mk (hbox); have n2_ := Aside0.mk ((by rw [hg]; exact (below_size (by repeat (first | (with_reducible first | exact HB.out | apply below_alloc | apply pw_below_drewN | apply below_drew1) | exact HB.out))) : w.heap.size ≤ gb120)); have n3_ := Aside0.mk ((by rw [hg]; exact (below_size (by repeat (first | (with_reducible first | exact HB.out | apply below_alloc | apply pw_below_drewN | apply below_drew1) | exact HB.out))) : w.heap.size ≤ gb120)); clear HB; have HB := n0_; have BK120 := n1_; have GW120 := n2_; have GE120 := n3_; clear n0_ n1_ n2_ n3_; clear hb hbox hg; have hcz32_0 : w31.cell? ⟨gb120, 0, none⟩ = some (.int .i64 a2_0) := (blk_cell BK120.out 0).trans rfl; have hcz32_1 : w31.cell? ⟨gb120, 1, none⟩ = some (.string a2_1) := (blk_cell BK120.out 1).trans rfl; have hcz32_2 : w31.cell? ⟨gb120, 2, none⟩ = some (.int .i64 a2_2) := (blk_cell BK120.out 2).trans rfl; have hcz32_3 : w31.cell? ⟨gb120, 3, none⟩ = some (.slice A2_3 l2_3.length c2_3) := (blk_cell BK120.out 3).trans rfl; have hfz32_0 := blk_frozen BK120.out 0; have hfz32_1 := blk_frozen BK120.out 1; have hfz32_2 := blk_frozen BK120.out 2; have hfz32_3 := blk_frozen BK120.out 3))
            go_loopg [7, 8] k (fun kq v7 v8 w' => ∃ (x7_1 : Bool) (x8_1 : Int), v7 = .bool x7_1 ∧ v8 = .int .i64 x8_1 ∧ Aside0 (ashlarlaw07_truth.l0 kq l0 a1 x7_1 x8_1 a2_0 a2_1 a2_2 l2_3 = some r) ∧ Aside0 (kq ≤ k) ∧ Aside0 (w'.heap[gb120]? = some (.cells #[.int .i64 a2_0, .string a2_1, .int .i64 a2_2, (.slice A2_3 l2_3.length c2_3)] 24 (0, 0))) ∧ Aside0 (Below w.heap.size w w'))
            case atStart => exact ⟨(true), (0), (by first | rfl | (simp; done) | (simp [*]; done)), (by first | rfl | (simp; done) | (simp [*]; done)), H', ⟨Nat.le_refl _⟩, ⟨by (with_reducible repeat (first | refine blk_drewN ?_ _ | refine blk_drew ?_ | refine blk_alloc ?_ _)); exact BK120.out⟩, ⟨by repeat (first | (with_reducible first | exact HB.out | apply below_alloc | apply pw_below_drewN | apply below_drew1 | refine below_set ?_ GE120.out) | exact HB.out)⟩⟩
            case round =>
              clear H'
              try clear c1
              try clear p1
              try clear q1
              try clear hx1
              try clear qi1
              try clear c2
              try clear p2
              try clear c3
              try clear c4
              try clear c4b0
              try clear c4b1
              try clear c7
              try clear c7b0
              try clear c7b1
              try clear c10
              try clear c10b0
              try clear c10b1
              try clear c11
              try clear c11b0
              try clear c11b1
              try clear c12
              try clear p12
              try clear q12
              try clear hx12
              try clear qi12
              try clear c16
              try clear c16b0
              try clear c16b1
              try clear c17
              try clear c17b0
              try clear c17b1
              try clear c19
              try clear c20
              try clear c20b0
              try clear c20b1
              try clear c30
              try clear c30b0
              try clear c30b1
              try clear hcz14_0
              try clear hcz14_1
              try clear hcz14_2
              try clear hcz14_3
              try clear hcz23_0
              try clear hcz23_1
              try clear hcz23_2
              try clear hcz23_3
              try clear hcz25_0
              try clear hcz25_1
              try clear hcz25_2
              try clear hcz25_3
              try clear hcz28_0
              try clear hcz28_1
              try clear hcz28_2
              try clear hcz28_3
              try clear hcz32_0
              try clear hcz32_1
              try clear hcz32_2
              try clear hcz32_3
              try clear hcz6_0
              try clear hcz6_1
              try clear hcz6_2
              try clear hcz6_3
              try clear hcz9_0
              try clear hcz9_1
              try clear hcz9_2
              try clear hcz9_3
              try clear hfz14_0
              try clear hfz14_1
              try clear hfz14_2
              try clear hfz14_3
              try clear hfz23_0
              try clear hfz23_1
              try clear hfz23_2
              try clear hfz23_3
              try clear hfz25_0
              try clear hfz25_1
              try clear hfz25_2
              try clear hfz25_3
              try clear hfz28_0
              try clear hfz28_1
              try clear hfz28_2
              try clear hfz28_3
              try clear hfz32_0
              try clear hfz32_1
              try clear hfz32_2
              try clear hfz32_3
              try clear hfz6_0
              try clear hfz6_1
              try clear hfz6_2
              try clear hfz6_3
              try clear hfz9_0
              try clear hfz9_1
              try clear hfz9_2
              try clear hfz9_3
              try clear hx121_0
              try clear hx121_1
              try clear hx121_2
              try clear hx121_3
              try clear hx123_0
              try clear hx123_1
              try clear hx123_2
              try clear hx123_3
              try clear hx125_0
              try clear hx125_1
              try clear hx125_2
              try clear hx125_3
              try clear p121
              try clear p123
              try clear p125
              try clear q121
              try clear q123
              try clear q125
              obtain ⟨x7_1, x8_1, rfl, rfl, HA, HK1, BK120, HB⟩ := hrel
              cases gk with
              | zero => exact absurd HA.out (by simp [ashlarlaw07_truth.l0])
              | succ k1 =>
                have H := HA.out
                clear HA
                simp only [ashlarlaw07_truth.l0] at H
                by_cases c33 : x8_1 < (l2_3.length : Int)
                · rw [if_pos c33] at H
                  have c33b0 : decide (x8_1 < (l2_3.length : Int)) = true := decide_eq_true c33
                  clear c33
                  by_cases c34 : 0 ≤ x8_1
                  · rw [if_pos c34] at H
                    have c34b0 : decide (0 ≤ x8_1) = true := decide_eq_true c34
                    clear c34
                    replace H := Option.bind_eq_some_iff.mp H
                    obtain ⟨t128, A350, H⟩ := H
                    replace H : (if x7_1 = true then (ashlarlaw07_truth.l0 k1 l0 a1 t128 (wrap64 (x8_1 + 1)) a2_0 a2_1 a2_2 l2_3) else (ashlarlaw07_truth.l0 k1 l0 a1 false (wrap64 (x8_1 + 1)) a2_0 a2_1 a2_2 l2_3)) = some r := H
                    have A35 := Aside0.mk A350
                    clear A350
                    by_cases c36 : x7_1 = true
                    · subst c36
                      have H1 : (ashlarlaw07_truth.l0 k1 l0 a1 t128 (wrap64 (x8_1 + 1)) a2_0 a2_1 a2_2 l2_3) = some r := by rw [if_pos rfl] at H; exact H
                      clear H
                      have H := H1
                      clear H1
                      have H' := Aside0.mk H
                      clear H
                      have hcz37_0 : wr.cell? ⟨gb120, 0, none⟩ = some (.int .i64 a2_0) := (blk_cell BK120.out 0).trans rfl
                      have hcz37_1 : wr.cell? ⟨gb120, 1, none⟩ = some (.string a2_1) := (blk_cell BK120.out 1).trans rfl
                      have hcz37_2 : wr.cell? ⟨gb120, 2, none⟩ = some (.int .i64 a2_2) := (blk_cell BK120.out 2).trans rfl
                      have hcz37_3 : wr.cell? ⟨gb120, 3, none⟩ = some (.slice A2_3 l2_3.length c2_3) := (blk_cell BK120.out 3).trans rfl
                      have hfz37_0 := blk_frozen BK120.out 0
                      have hfz37_1 := blk_frozen BK120.out 1
                      have hfz37_2 := blk_frozen BK120.out 2
                      have hfz37_3 := blk_frozen BK120.out 3
                      have p127 : 0 ≤ (x8_1 : Int) := of_decide_eq_true (by first | (with_reducible assumption) | assumption)
                      have q127 : x8_1 < (l2_3.length : Int) := of_decide_eq_true (by first | (with_reducible assumption) | assumption)
                      obtain ⟨ad127, A127_3, c127_3, e127, hx127_0, hx127_1, hx127_2, hx127_3, hl127_3, hi127_3⟩ := at_T24 HR2_3.out x8_1 p127 q127
                      cases e127
                      replace hx127_0 := (HB.out.cell (World.block_lt_of_cell? w _ hx127_0)).trans hx127_0
                      replace hx127_1 := (HB.out.cell (World.block_lt_of_cell? w _ hx127_1)).trans hx127_1
                      replace hx127_2 := (HB.out.cell (World.block_lt_of_cell? w _ hx127_2)).trans hx127_2
                      replace hx127_3 := (HB.out.cell (World.block_lt_of_cell? w _ hx127_3)).trans hx127_3
                      have HR127_3 := Aside0.mk hi127_3
                      have HC127_3 := Aside0.mk hl127_3
                      clear hi127_3 hl127_3
                      replace p127 := eq_true p127
                      replace q127 := eq_true q127
                      go_wp2_with (first | ((with_reducible refine gate_callee (f := 16) rfl ?_); refine goesL_ (some 64) rfl rfl Tryd.func16 (by kernel_rfl) rfl #[.slice A0 l0.length c0, .int .u64 a1, .agg #[.int .i64 ((rd_T24 l2_3 x8_1).f0), .string ((rd_T24 l2_3 x8_1).f1), .int .i64 ((rd_T24 l2_3 x8_1).f2), .slice A127_3 ((rd_T24 l2_3 x8_1).f3).length c127_3]] rfl (by (try simp only [List.map_toArray, List.map_cons, List.map_nil]); first | done | rfl | (simp only [List.length_drop, List.length_take]; rfl)) ?_; (with_reducible refine (ih k1 (by have := HK1.out; omega) _ _ l0 a1 ((rd_T24 l2_3 x8_1).f0) ((rd_T24 l2_3 x8_1).f1) ((rd_T24 l2_3 x8_1).f2) _ _ ((rd_T24 l2_3 x8_1).f3) t128 _ ?side1 ?side2 ?side3 ?side4 A35.out).mono ?_); (case side1 => repeat (first | exact (Kd.C_below HR0.out HB.out) | (with_reducible refine Kd.C_alloc ?_ _) | (with_reducible refine Kd.C_drewN ?_ _) | (with_reducible refine Kd.C_drew ?_))); (case side2 => exact HC0.out); (case side3 => repeat (first | exact (Kd.C_below HR127_3.out HB.out) | (with_reducible refine Kd.C_alloc ?_ _) | (with_reducible refine Kd.C_drewN ?_ _) | (with_reducible refine Kd.C_drew ?_))); (case side4 => exact HC127_3.out); rintro e w38 ⟨rfl, hb⟩; refine ⟨_, rfl, ?_⟩; have n0_ := Aside0.mk (blk_below (g := gb120) (o := .cells #[.int .i64 a2_0, .string a2_1, .int .i64 a2_2, .slice (some ad127) l2_3.length c2_3] 24 (0, 0)) (by (with_reducible repeat (first | refine blk_drewN ?_ _ | refine blk_drew ?_ | refine blk_alloc ?_ _)); exact BK120.out) hb); have n1_ := Aside0.mk (below_step (by repeat (first | (with_reducible first | exact HB.out | apply below_alloc | apply pw_below_drewN | apply below_drew1 | refine below_set ?_ GE120.out) | exact HB.out)) hb); clear BK120; clear HB; have BK120 := n0_; have HB := n1_; clear n0_ n1_; (try clear hb); (try clear hb2); (try clear hk); (try clear hi)))
                      go_roundg k1
                      case measure => have := HK1.out; omega
                      case rel => exact ⟨(t128), (wrap64 (x8_1 + 1)), (by first | rfl | (simp; done) | (simp [*]; done)), (by first | rfl | (simp; done) | (simp [*]; done)), H', ⟨by have := HK1.out; omega⟩, ⟨by (with_reducible repeat (first | refine blk_drewN ?_ _ | refine blk_drew ?_ | refine blk_alloc ?_ _)); exact BK120.out⟩, ⟨by repeat (first | (with_reducible first | exact HB.out | apply below_alloc | apply pw_below_drewN | apply below_drew1 | refine below_set ?_ GE120.out) | exact HB.out)⟩⟩
                    · replace c36 := Bool.eq_false_iff.mpr c36
                      subst c36
                      have H1 : (ashlarlaw07_truth.l0 k1 l0 a1 false (wrap64 (x8_1 + 1)) a2_0 a2_1 a2_2 l2_3) = some r := by rw [if_neg (show ¬ (false = true) by decide)] at H; exact H
                      clear H
                      have H := H1
                      clear H1
                      have H' := Aside0.mk H
                      clear H
                      have hcz39_0 : wr.cell? ⟨gb120, 0, none⟩ = some (.int .i64 a2_0) := (blk_cell BK120.out 0).trans rfl
                      have hcz39_1 : wr.cell? ⟨gb120, 1, none⟩ = some (.string a2_1) := (blk_cell BK120.out 1).trans rfl
                      have hcz39_2 : wr.cell? ⟨gb120, 2, none⟩ = some (.int .i64 a2_2) := (blk_cell BK120.out 2).trans rfl
                      have hcz39_3 : wr.cell? ⟨gb120, 3, none⟩ = some (.slice A2_3 l2_3.length c2_3) := (blk_cell BK120.out 3).trans rfl
                      have hfz39_0 := blk_frozen BK120.out 0
                      have hfz39_1 := blk_frozen BK120.out 1
                      have hfz39_2 := blk_frozen BK120.out 2
                      have hfz39_3 := blk_frozen BK120.out 3
                      have p127 : 0 ≤ (x8_1 : Int) := of_decide_eq_true (by first | (with_reducible assumption) | assumption)
                      have q127 : x8_1 < (l2_3.length : Int) := of_decide_eq_true (by first | (with_reducible assumption) | assumption)
                      obtain ⟨ad127, A127_3, c127_3, e127, hx127_0, hx127_1, hx127_2, hx127_3, hl127_3, hi127_3⟩ := at_T24 HR2_3.out x8_1 p127 q127
                      cases e127
                      replace hx127_0 := (HB.out.cell (World.block_lt_of_cell? w _ hx127_0)).trans hx127_0
                      replace hx127_1 := (HB.out.cell (World.block_lt_of_cell? w _ hx127_1)).trans hx127_1
                      replace hx127_2 := (HB.out.cell (World.block_lt_of_cell? w _ hx127_2)).trans hx127_2
                      replace hx127_3 := (HB.out.cell (World.block_lt_of_cell? w _ hx127_3)).trans hx127_3
                      have HR127_3 := Aside0.mk hi127_3
                      have HC127_3 := Aside0.mk hl127_3
                      clear hi127_3 hl127_3
                      replace p127 := eq_true p127
                      replace q127 := eq_true q127
                      go_wp2_with (first | ((with_reducible refine gate_callee (f := 16) rfl ?_); refine goesL_ (some 64) rfl rfl Tryd.func16 (by kernel_rfl) rfl #[.slice A0 l0.length c0, .int .u64 a1, .agg #[.int .i64 ((rd_T24 l2_3 x8_1).f0), .string ((rd_T24 l2_3 x8_1).f1), .int .i64 ((rd_T24 l2_3 x8_1).f2), .slice A127_3 ((rd_T24 l2_3 x8_1).f3).length c127_3]] rfl (by (try simp only [List.map_toArray, List.map_cons, List.map_nil]); first | done | rfl | (simp only [List.length_drop, List.length_take]; rfl)) ?_; (with_reducible refine (ih k1 (by have := HK1.out; omega) _ _ l0 a1 ((rd_T24 l2_3 x8_1).f0) ((rd_T24 l2_3 x8_1).f1) ((rd_T24 l2_3 x8_1).f2) _ _ ((rd_T24 l2_3 x8_1).f3) t128 _ ?side1 ?side2 ?side3 ?side4 A35.out).mono ?_); (case side1 => repeat (first | exact (Kd.C_below HR0.out HB.out) | (with_reducible refine Kd.C_alloc ?_ _) | (with_reducible refine Kd.C_drewN ?_ _) | (with_reducible refine Kd.C_drew ?_))); (case side2 => exact HC0.out); (case side3 => repeat (first | exact (Kd.C_below HR127_3.out HB.out) | (with_reducible refine Kd.C_alloc ?_ _) | (with_reducible refine Kd.C_drewN ?_ _) | (with_reducible refine Kd.C_drew ?_))); (case side4 => exact HC127_3.out); rintro e w40 ⟨rfl, hb⟩; refine ⟨_, rfl, ?_⟩; have n0_ := Aside0.mk (blk_below (g := gb120) (o := .cells #[.int .i64 a2_0, .string a2_1, .int .i64 a2_2, .slice (some ad127) l2_3.length c2_3] 24 (0, 0)) (by (with_reducible repeat (first | refine blk_drewN ?_ _ | refine blk_drew ?_ | refine blk_alloc ?_ _)); exact BK120.out) hb); have n1_ := Aside0.mk (below_step (by repeat (first | (with_reducible first | exact HB.out | apply below_alloc | apply pw_below_drewN | apply below_drew1 | refine below_set ?_ GE120.out) | exact HB.out)) hb); clear BK120; clear HB; have BK120 := n0_; have HB := n1_; clear n0_ n1_; (try clear hb); (try clear hb2); (try clear hk); (try clear hi)))
                      go_roundg k1
                      case measure => have := HK1.out; omega
                      case rel => exact ⟨(false), (wrap64 (x8_1 + 1)), (by first | rfl | (simp; done) | (simp [*]; done)), (by first | rfl | (simp; done) | (simp [*]; done)), H', ⟨by have := HK1.out; omega⟩, ⟨by (with_reducible repeat (first | refine blk_drewN ?_ _ | refine blk_drew ?_ | refine blk_alloc ?_ _)); exact BK120.out⟩, ⟨by repeat (first | (with_reducible first | exact HB.out | apply below_alloc | apply pw_below_drewN | apply below_drew1 | refine below_set ?_ GE120.out) | exact HB.out)⟩⟩
                  · rw [if_neg c34] at H
                    exact absurd H (by simp)
                · rw [if_neg c33] at H
                  have c33b0 : decide (x8_1 < (l2_3.length : Int)) = false := decide_eq_false c33
                  clear c33
                  obtain rfl := Option.some.inj H
                  have hcz41_0 : wr.cell? ⟨gb120, 0, none⟩ = some (.int .i64 a2_0) := (blk_cell BK120.out 0).trans rfl
                  have hcz41_1 : wr.cell? ⟨gb120, 1, none⟩ = some (.string a2_1) := (blk_cell BK120.out 1).trans rfl
                  have hcz41_2 : wr.cell? ⟨gb120, 2, none⟩ = some (.int .i64 a2_2) := (blk_cell BK120.out 2).trans rfl
                  have hcz41_3 : wr.cell? ⟨gb120, 3, none⟩ = some (.slice A2_3 l2_3.length c2_3) := (blk_cell BK120.out 3).trans rfl
                  have hfz41_0 := blk_frozen BK120.out 0
                  have hfz41_1 := blk_frozen BK120.out 1
                  have hfz41_2 := blk_frozen BK120.out 2
                  have hfz41_3 := blk_frozen BK120.out 3
                  go_wp2
                  go_ret
                  exact ⟨by first | rfl | (simp [errW_none, errW_some] <;> rfl) | (simp [*, errW_none, errW_some] <;> rfl), by repeat (first | (with_reducible first | exact HB.out | apply below_alloc | apply pw_below_drewN | apply below_drew1 | refine below_set ?_ GE120.out) | exact HB.out)⟩
          · rw [if_neg c30] at H
            have c30b0 : (a2_0 == 19) = false := beq_eq_false_iff_ne.mpr c30
            have c30b1 : (a2_0 != 19) = true := bne_iff_ne.mpr c30
            by_cases c42 : a2_0 = 20
            · rw [if_pos c42] at H
              have c42b0 : (a2_0 == 20) = true := beq_iff_eq.mpr c42
              have c42b1 : (a2_0 != 20) = false := bne_eq_false_iff_eq.mpr c42
              clear c42
              have H' := Aside0.mk H
              clear H
              go_enter Tryd.func16, Tryd.ntmps16
              go_wp2_with (first | ((with_reducible refine gate_dst (N := 5) rfl ?_); refine box_event ?hg (N := 5) ?hd (cs := #[.int .i64 a2_0, .string a2_1, .int .i64 a2_2, .slice A2_3 l2_3.length c2_3]) (t := 24) ?hr ?_; (case hd => rfl); (case hg => rfl); (case hr => first | (go_simp; done) | (go_simp; rfl)); intro gb120 hg w43 hbox hb; have n0_ := Aside0.mk (below_step (by repeat (first | (with_reducible first | exact HB.out | apply below_alloc | apply pw_below_drewN | apply below_drew1) | exact HB.out)) hb); have n1_ := Aside0.mk (hbox); have n2_ := Aside0.mk ((by rw [hg]; exact (below_size (by repeat (first | (with_reducible first | exact HB.out | apply below_alloc | apply pw_below_drewN | apply below_drew1) | exact HB.out))) : w.heap.size ≤ gb120)); have n3_ := Aside0.mk ((by rw [hg]; exact (below_size (by repeat (first | (with_reducible first | exact HB.out | apply below_alloc | apply pw_below_drewN | apply below_drew1) | exact HB.out))) : w.heap.size ≤ gb120)); clear HB; have HB := n0_; have BK120 := n1_; have GW120 := n2_; have GE120 := n3_; clear n0_ n1_ n2_ n3_; clear hb hbox hg; have hcz44_0 : w43.cell? ⟨gb120, 0, none⟩ = some (.int .i64 a2_0) := (blk_cell BK120.out 0).trans rfl; have hcz44_1 : w43.cell? ⟨gb120, 1, none⟩ = some (.string a2_1) := (blk_cell BK120.out 1).trans rfl; have hcz44_2 : w43.cell? ⟨gb120, 2, none⟩ = some (.int .i64 a2_2) := (blk_cell BK120.out 2).trans rfl; have hcz44_3 : w43.cell? ⟨gb120, 3, none⟩ = some (.slice A2_3 l2_3.length c2_3) := (blk_cell BK120.out 3).trans rfl; have hfz44_0 := blk_frozen BK120.out 0; have hfz44_1 := blk_frozen BK120.out 1; have hfz44_2 := blk_frozen BK120.out 2; have hfz44_3 := blk_frozen BK120.out 3))
              go_loopg [10, 11] k (fun kq v10 v11 w' => ∃ (x10_1 : Bool) (x11_1 : Int), v10 = .bool x10_1 ∧ v11 = .int .i64 x11_1 ∧ Aside0 (ashlarlaw07_truth.l1 kq l0 a1 x10_1 x11_1 a2_0 a2_1 a2_2 l2_3 = some r) ∧ Aside0 (kq ≤ k) ∧ Aside0 (w'.heap[gb120]? = some (.cells #[.int .i64 a2_0, .string a2_1, .int .i64 a2_2, (.slice A2_3 l2_3.length c2_3)] 24 (0, 0))) ∧ Aside0 (Below w.heap.size w w'))
              case atStart => exact ⟨(false), (0), (by first | rfl | (simp; done) | (simp [*]; done)), (by first | rfl | (simp; done) | (simp [*]; done)), H', ⟨Nat.le_refl _⟩, ⟨by (with_reducible repeat (first | refine blk_drewN ?_ _ | refine blk_drew ?_ | refine blk_alloc ?_ _)); exact BK120.out⟩, ⟨by repeat (first | (with_reducible first | exact HB.out | apply below_alloc | apply pw_below_drewN | apply below_drew1 | refine below_set ?_ GE120.out) | exact HB.out)⟩⟩
              case round =>
                clear H'
                try clear c1
                try clear p1
                try clear q1
                try clear hx1
                try clear qi1
                try clear c2
                try clear p2
                try clear c3
                try clear c4
                try clear c4b0
                try clear c4b1
                try clear p6
                try clear c7
                try clear c7b0
                try clear c7b1
                try clear c10
                try clear c10b0
                try clear c10b1
                try clear c11
                try clear c11b0
                try clear c11b1
                try clear c12
                try clear p12
                try clear q12
                try clear hx12
                try clear qi12
                try clear c16
                try clear c16b0
                try clear c16b1
                try clear c17
                try clear c17b0
                try clear c17b1
                try clear c19
                try clear c20
                try clear c20b0
                try clear c20b1
                try clear c30
                try clear c30b0
                try clear c30b1
                try clear c33
                try clear c33b0
                try clear c34
                try clear c34b0
                try clear c36
                try clear c42
                try clear c42b0
                try clear c42b1
                try clear hcz14_0
                try clear hcz14_1
                try clear hcz14_2
                try clear hcz14_3
                try clear hcz23_0
                try clear hcz23_1
                try clear hcz23_2
                try clear hcz23_3
                try clear hcz25_0
                try clear hcz25_1
                try clear hcz25_2
                try clear hcz25_3
                try clear hcz28_0
                try clear hcz28_1
                try clear hcz28_2
                try clear hcz28_3
                try clear hcz32_0
                try clear hcz32_1
                try clear hcz32_2
                try clear hcz32_3
                try clear hcz37_0
                try clear hcz37_1
                try clear hcz37_2
                try clear hcz37_3
                try clear hcz39_0
                try clear hcz39_1
                try clear hcz39_2
                try clear hcz39_3
                try clear hcz41_0
                try clear hcz41_1
                try clear hcz41_2
                try clear hcz41_3
                try clear hcz44_0
                try clear hcz44_1
                try clear hcz44_2
                try clear hcz44_3
                try clear hcz6_0
                try clear hcz6_1
                try clear hcz6_2
                try clear hcz6_3
                try clear hcz9_0
                try clear hcz9_1
                try clear hcz9_2
                try clear hcz9_3
                try clear hfz14_0
                try clear hfz14_1
                try clear hfz14_2
                try clear hfz14_3
                try clear hfz23_0
                try clear hfz23_1
                try clear hfz23_2
                try clear hfz23_3
                try clear hfz25_0
                try clear hfz25_1
                try clear hfz25_2
                try clear hfz25_3
                try clear hfz28_0
                try clear hfz28_1
                try clear hfz28_2
                try clear hfz28_3
                try clear hfz32_0
                try clear hfz32_1
                try clear hfz32_2
                try clear hfz32_3
                try clear hfz37_0
                try clear hfz37_1
                try clear hfz37_2
                try clear hfz37_3
                try clear hfz39_0
                try clear hfz39_1
                try clear hfz39_2
                try clear hfz39_3
                try clear hfz41_0
                try clear hfz41_1
                try clear hfz41_2
                try clear hfz41_3
                try clear hfz44_0
                try clear hfz44_1
                try clear hfz44_2
                try clear hfz44_3
                try clear hfz6_0
                try clear hfz6_1
                try clear hfz6_2
                try clear hfz6_3
                try clear hfz9_0
                try clear hfz9_1
                try clear hfz9_2
                try clear hfz9_3
                try clear hx121_0
                try clear hx121_1
                try clear hx121_2
                try clear hx121_3
                try clear hx123_0
                try clear hx123_1
                try clear hx123_2
                try clear hx123_3
                try clear hx125_0
                try clear hx125_1
                try clear hx125_2
                try clear hx125_3
                try clear hx127_0
                try clear hx127_1
                try clear hx127_2
                try clear hx127_3
                try clear p1
                try clear p12
                try clear p121
                try clear p123
                try clear p125
                try clear p127
                try clear p2
                try clear q1
                try clear q12
                try clear q121
                try clear q123
                try clear q125
                try clear q127
                obtain ⟨x10_1, x11_1, rfl, rfl, HA, HK1, BK120, HB⟩ := hrel
                cases gk with
                | zero => exact absurd HA.out (by simp [ashlarlaw07_truth.l1])
                | succ k1 =>
                  have H := HA.out
                  clear HA
                  simp only [ashlarlaw07_truth.l1] at H
                  by_cases c45 : x11_1 < (l2_3.length : Int)
                  · rw [if_pos c45] at H
                    have c45b0 : decide (x11_1 < (l2_3.length : Int)) = true := decide_eq_true c45
                    clear c45
                    by_cases c46 : 0 ≤ x11_1
                    · rw [if_pos c46] at H
                      have c46b0 : decide (0 ≤ x11_1) = true := decide_eq_true c46
                      clear c46
                      replace H := Option.bind_eq_some_iff.mp H
                      obtain ⟨t130, A470, H⟩ := H
                      replace H : (if x10_1 = true then (ashlarlaw07_truth.l1 k1 l0 a1 true (wrap64 (x11_1 + 1)) a2_0 a2_1 a2_2 l2_3) else (ashlarlaw07_truth.l1 k1 l0 a1 t130 (wrap64 (x11_1 + 1)) a2_0 a2_1 a2_2 l2_3)) = some r := H
                      have A47 := Aside0.mk A470
                      clear A470
                      by_cases c48 : x10_1 = true
                      · subst c48
                        have H1 : (ashlarlaw07_truth.l1 k1 l0 a1 true (wrap64 (x11_1 + 1)) a2_0 a2_1 a2_2 l2_3) = some r := by rw [if_pos rfl] at H; exact H
                        clear H
                        have H := H1
                        clear H1
                        have H' := Aside0.mk H
                        clear H
                        have hcz49_0 : wr.cell? ⟨gb120, 0, none⟩ = some (.int .i64 a2_0) := (blk_cell BK120.out 0).trans rfl
                        have hcz49_1 : wr.cell? ⟨gb120, 1, none⟩ = some (.string a2_1) := (blk_cell BK120.out 1).trans rfl
                        have hcz49_2 : wr.cell? ⟨gb120, 2, none⟩ = some (.int .i64 a2_2) := (blk_cell BK120.out 2).trans rfl
                        have hcz49_3 : wr.cell? ⟨gb120, 3, none⟩ = some (.slice A2_3 l2_3.length c2_3) := (blk_cell BK120.out 3).trans rfl
                        have hfz49_0 := blk_frozen BK120.out 0
                        have hfz49_1 := blk_frozen BK120.out 1
                        have hfz49_2 := blk_frozen BK120.out 2
                        have hfz49_3 := blk_frozen BK120.out 3
                        have p129 : 0 ≤ (x11_1 : Int) := of_decide_eq_true (by first | (with_reducible assumption) | assumption)
                        have q129 : x11_1 < (l2_3.length : Int) := of_decide_eq_true (by first | (with_reducible assumption) | assumption)
                        obtain ⟨ad129, A129_3, c129_3, e129, hx129_0, hx129_1, hx129_2, hx129_3, hl129_3, hi129_3⟩ := at_T24 HR2_3.out x11_1 p129 q129
                        cases e129
                        replace hx129_0 := (HB.out.cell (World.block_lt_of_cell? w _ hx129_0)).trans hx129_0
                        replace hx129_1 := (HB.out.cell (World.block_lt_of_cell? w _ hx129_1)).trans hx129_1
                        replace hx129_2 := (HB.out.cell (World.block_lt_of_cell? w _ hx129_2)).trans hx129_2
                        replace hx129_3 := (HB.out.cell (World.block_lt_of_cell? w _ hx129_3)).trans hx129_3
                        have HR129_3 := Aside0.mk hi129_3
                        have HC129_3 := Aside0.mk hl129_3
                        clear hi129_3 hl129_3
                        replace p129 := eq_true p129
                        replace q129 := eq_true q129
                        go_wp2_with (first | ((with_reducible refine gate_callee (f := 16) rfl ?_); refine goesL_ (some 86) rfl rfl Tryd.func16 (by kernel_rfl) rfl #[.slice A0 l0.length c0, .int .u64 a1, .agg #[.int .i64 ((rd_T24 l2_3 x11_1).f0), .string ((rd_T24 l2_3 x11_1).f1), .int .i64 ((rd_T24 l2_3 x11_1).f2), .slice A129_3 ((rd_T24 l2_3 x11_1).f3).length c129_3]] rfl (by (try simp only [List.map_toArray, List.map_cons, List.map_nil]); first | done | rfl | (simp only [List.length_drop, List.length_take]; rfl)) ?_; (with_reducible refine (ih k1 (by have := HK1.out; omega) _ _ l0 a1 ((rd_T24 l2_3 x11_1).f0) ((rd_T24 l2_3 x11_1).f1) ((rd_T24 l2_3 x11_1).f2) _ _ ((rd_T24 l2_3 x11_1).f3) t130 _ ?side1 ?side2 ?side3 ?side4 A47.out).mono ?_); (case side1 => repeat (first | exact (Kd.C_below HR0.out HB.out) | (with_reducible refine Kd.C_alloc ?_ _) | (with_reducible refine Kd.C_drewN ?_ _) | (with_reducible refine Kd.C_drew ?_))); (case side2 => exact HC0.out); (case side3 => repeat (first | exact (Kd.C_below HR129_3.out HB.out) | (with_reducible refine Kd.C_alloc ?_ _) | (with_reducible refine Kd.C_drewN ?_ _) | (with_reducible refine Kd.C_drew ?_))); (case side4 => exact HC129_3.out); rintro e w50 ⟨rfl, hb⟩; refine ⟨_, rfl, ?_⟩; have n0_ := Aside0.mk (blk_below (g := gb120) (o := .cells #[.int .i64 a2_0, .string a2_1, .int .i64 a2_2, .slice (some ad129) l2_3.length c2_3] 24 (0, 0)) (by (with_reducible repeat (first | refine blk_drewN ?_ _ | refine blk_drew ?_ | refine blk_alloc ?_ _)); exact BK120.out) hb); have n1_ := Aside0.mk (below_step (by repeat (first | (with_reducible first | exact HB.out | apply below_alloc | apply pw_below_drewN | apply below_drew1 | refine below_set ?_ GE120.out) | exact HB.out)) hb); clear BK120; clear HB; have BK120 := n0_; have HB := n1_; clear n0_ n1_; (try clear hb); (try clear hb2); (try clear hk); (try clear hi)))
                        go_roundg k1
                        case measure => have := HK1.out; omega
                        case rel => exact ⟨(true), (wrap64 (x11_1 + 1)), (by first | rfl | (simp; done) | (simp [*]; done)), (by first | rfl | (simp; done) | (simp [*]; done)), H', ⟨by have := HK1.out; omega⟩, ⟨by (with_reducible repeat (first | refine blk_drewN ?_ _ | refine blk_drew ?_ | refine blk_alloc ?_ _)); exact BK120.out⟩, ⟨by repeat (first | (with_reducible first | exact HB.out | apply below_alloc | apply pw_below_drewN | apply below_drew1 | refine below_set ?_ GE120.out) | exact HB.out)⟩⟩
                      · replace c48 := Bool.eq_false_iff.mpr c48
                        subst c48
                        have H1 : (ashlarlaw07_truth.l1 k1 l0 a1 t130 (wrap64 (x11_1 + 1)) a2_0 a2_1 a2_2 l2_3) = some r := by rw [if_neg (show ¬ (false = true) by decide)] at H; exact H
                        clear H
                        have H := H1
                        clear H1
                        have H' := Aside0.mk H
                        clear H
                        have hcz51_0 : wr.cell? ⟨gb120, 0, none⟩ = some (.int .i64 a2_0) := (blk_cell BK120.out 0).trans rfl
                        have hcz51_1 : wr.cell? ⟨gb120, 1, none⟩ = some (.string a2_1) := (blk_cell BK120.out 1).trans rfl
                        have hcz51_2 : wr.cell? ⟨gb120, 2, none⟩ = some (.int .i64 a2_2) := (blk_cell BK120.out 2).trans rfl
                        have hcz51_3 : wr.cell? ⟨gb120, 3, none⟩ = some (.slice A2_3 l2_3.length c2_3) := (blk_cell BK120.out 3).trans rfl
                        have hfz51_0 := blk_frozen BK120.out 0
                        have hfz51_1 := blk_frozen BK120.out 1
                        have hfz51_2 := blk_frozen BK120.out 2
                        have hfz51_3 := blk_frozen BK120.out 3
                        have p129 : 0 ≤ (x11_1 : Int) := of_decide_eq_true (by first | (with_reducible assumption) | assumption)
                        have q129 : x11_1 < (l2_3.length : Int) := of_decide_eq_true (by first | (with_reducible assumption) | assumption)
                        obtain ⟨ad129, A129_3, c129_3, e129, hx129_0, hx129_1, hx129_2, hx129_3, hl129_3, hi129_3⟩ := at_T24 HR2_3.out x11_1 p129 q129
                        cases e129
                        replace hx129_0 := (HB.out.cell (World.block_lt_of_cell? w _ hx129_0)).trans hx129_0
                        replace hx129_1 := (HB.out.cell (World.block_lt_of_cell? w _ hx129_1)).trans hx129_1
                        replace hx129_2 := (HB.out.cell (World.block_lt_of_cell? w _ hx129_2)).trans hx129_2
                        replace hx129_3 := (HB.out.cell (World.block_lt_of_cell? w _ hx129_3)).trans hx129_3
                        have HR129_3 := Aside0.mk hi129_3
                        have HC129_3 := Aside0.mk hl129_3
                        clear hi129_3 hl129_3
                        replace p129 := eq_true p129
                        replace q129 := eq_true q129
                        go_wp2_with (first | ((with_reducible refine gate_callee (f := 16) rfl ?_); refine goesL_ (some 86) rfl rfl Tryd.func16 (by kernel_rfl) rfl #[.slice A0 l0.length c0, .int .u64 a1, .agg #[.int .i64 ((rd_T24 l2_3 x11_1).f0), .string ((rd_T24 l2_3 x11_1).f1), .int .i64 ((rd_T24 l2_3 x11_1).f2), .slice A129_3 ((rd_T24 l2_3 x11_1).f3).length c129_3]] rfl (by (try simp only [List.map_toArray, List.map_cons, List.map_nil]); first | done | rfl | (simp only [List.length_drop, List.length_take]; rfl)) ?_; (with_reducible refine (ih k1 (by have := HK1.out; omega) _ _ l0 a1 ((rd_T24 l2_3 x11_1).f0) ((rd_T24 l2_3 x11_1).f1) ((rd_T24 l2_3 x11_1).f2) _ _ ((rd_T24 l2_3 x11_1).f3) t130 _ ?side1 ?side2 ?side3 ?side4 A47.out).mono ?_); (case side1 => repeat (first | exact (Kd.C_below HR0.out HB.out) | (with_reducible refine Kd.C_alloc ?_ _) | (with_reducible refine Kd.C_drewN ?_ _) | (with_reducible refine Kd.C_drew ?_))); (case side2 => exact HC0.out); (case side3 => repeat (first | exact (Kd.C_below HR129_3.out HB.out) | (with_reducible refine Kd.C_alloc ?_ _) | (with_reducible refine Kd.C_drewN ?_ _) | (with_reducible refine Kd.C_drew ?_))); (case side4 => exact HC129_3.out); rintro e w52 ⟨rfl, hb⟩; refine ⟨_, rfl, ?_⟩; have n0_ := Aside0.mk (blk_below (g := gb120) (o := .cells #[.int .i64 a2_0, .string a2_1, .int .i64 a2_2, .slice (some ad129) l2_3.length c2_3] 24 (0, 0)) (by (with_reducible repeat (first | refine blk_drewN ?_ _ | refine blk_drew ?_ | refine blk_alloc ?_ _)); exact BK120.out) hb); have n1_ := Aside0.mk (below_step (by repeat (first | (with_reducible first | exact HB.out | apply below_alloc | apply pw_below_drewN | apply below_drew1 | refine below_set ?_ GE120.out) | exact HB.out)) hb); clear BK120; clear HB; have BK120 := n0_; have HB := n1_; clear n0_ n1_; (try clear hb); (try clear hb2); (try clear hk); (try clear hi)))
                        go_roundg k1
                        case measure => have := HK1.out; omega
                        case rel => exact ⟨(t130), (wrap64 (x11_1 + 1)), (by first | rfl | (simp; done) | (simp [*]; done)), (by first | rfl | (simp; done) | (simp [*]; done)), H', ⟨by have := HK1.out; omega⟩, ⟨by (with_reducible repeat (first | refine blk_drewN ?_ _ | refine blk_drew ?_ | refine blk_alloc ?_ _)); exact BK120.out⟩, ⟨by repeat (first | (with_reducible first | exact HB.out | apply below_alloc | apply pw_below_drewN | apply below_drew1 | refine below_set ?_ GE120.out) | exact HB.out)⟩⟩
                    · rw [if_neg c46] at H
                      exact absurd H (by simp)
                  · rw [if_neg c45] at H
                    have c45b0 : decide (x11_1 < (l2_3.length : Int)) = false := decide_eq_false c45
                    clear c45
                    obtain rfl := Option.some.inj H
                    have hcz53_0 : wr.cell? ⟨gb120, 0, none⟩ = some (.int .i64 a2_0) := (blk_cell BK120.out 0).trans rfl
                    have hcz53_1 : wr.cell? ⟨gb120, 1, none⟩ = some (.string a2_1) := (blk_cell BK120.out 1).trans rfl
                    have hcz53_2 : wr.cell? ⟨gb120, 2, none⟩ = some (.int .i64 a2_2) := (blk_cell BK120.out 2).trans rfl
                    have hcz53_3 : wr.cell? ⟨gb120, 3, none⟩ = some (.slice A2_3 l2_3.length c2_3) := (blk_cell BK120.out 3).trans rfl
                    have hfz53_0 := blk_frozen BK120.out 0
                    have hfz53_1 := blk_frozen BK120.out 1
                    have hfz53_2 := blk_frozen BK120.out 2
                    have hfz53_3 := blk_frozen BK120.out 3
                    go_wp2
                    go_ret
                    exact ⟨by first | rfl | (simp [errW_none, errW_some] <;> rfl) | (simp [*, errW_none, errW_some] <;> rfl), by repeat (first | (with_reducible first | exact HB.out | apply below_alloc | apply pw_below_drewN | apply below_drew1 | refine below_set ?_ GE120.out) | exact HB.out)⟩
            · rw [if_neg c42] at H
              have c42b0 : (a2_0 == 20) = false := beq_eq_false_iff_ne.mpr c42
              have c42b1 : (a2_0 != 20) = true := bne_iff_ne.mpr c42
              replace H := Option.bind_eq_some_iff.mp H
              obtain ⟨t131, A540, H⟩ := H
              replace H : (if 0 ≤ (IntKind.u64.wrap (t131)) then (some ((Go.bits .and .u64 (shr .u64 a1 (IntKind.u64.wrap (t131))) 1) == 1)) else (none)) = some r := H
              have A54 := Aside0.mk A540
              clear A540
              obtain ⟨ji55, hji55⟩ : ∃ j_ : Int, (IntKind.u64.wrap (t131)) = j_ := ⟨_, rfl⟩
              replace H : (if 0 ≤ (ji55) then (some ((Go.bits .and .u64 (shr .u64 a1 (ji55)) 1) == 1)) else (none)) = some r := by first | (rw [hji55] at H; exact H) | (simp only [hji55] at H ⊢; exact H)
              (try rw [hji55] at A54)
              by_cases c56 : 0 ≤ (ji55)
              · rw [if_pos c56] at H
                have c56b0 := eq_true c56
                have c56b1 : decide (0 ≤ (ji55)) = true := decide_eq_true c56
                clear c56
                obtain ⟨ji57, hji57⟩ : ∃ j_ : Int, (shr .u64 a1 (ji55)) = j_ := ⟨_, rfl⟩
                replace H : (some ((Go.bits .and .u64 (ji57) 1) == 1)) = some r := by first | (rw [hji57] at H; exact H) | (simp only [hji57] at H ⊢; exact H)
                (try rw [hji57] at A54)
                have hji57_ : (a1 / 2 ^ min (ji55).toNat 64) = ji57 := hji57
                have hji57z : (ji55) ≤ 64 → (a1 / 2 ^ (ji55).toNat) = ji57 := shr_small hji57
                obtain rfl := Option.some.inj H
                go_enter Tryd.func16, Tryd.ntmps16
                go_wp2_with (first | ((with_reducible refine gate_dst (N := 5) rfl ?_); refine box_event ?hg (N := 5) ?hd (cs := #[.int .i64 a2_0, .string a2_1, .int .i64 a2_2, .slice A2_3 l2_3.length c2_3]) (t := 24) ?hr ?_; (case hd => rfl); (case hg => rfl); (case hr => first | (go_simp; done) | (go_simp; rfl)); intro gb120 hg w58 hbox hb; have n0_ := Aside0.mk (below_step (by repeat (first | (with_reducible first | exact HB.out | apply below_alloc | apply pw_below_drewN | apply below_drew1) | exact HB.out)) hb); have n1_ := Aside0.mk (hbox); have n2_ := Aside0.mk ((by rw [hg]; exact (below_size (by repeat (first | (with_reducible first | exact HB.out | apply below_alloc | apply pw_below_drewN | apply below_drew1) | exact HB.out))) : w.heap.size ≤ gb120)); have n3_ := Aside0.mk ((by rw [hg]; exact (below_size (by repeat (first | (with_reducible first | exact HB.out | apply below_alloc | apply pw_below_drewN | apply below_drew1) | exact HB.out))) : w.heap.size ≤ gb120)); clear HB; have HB := n0_; have BK120 := n1_; have GW120 := n2_; have GE120 := n3_; clear n0_ n1_ n2_ n3_; clear hb hbox hg; have hcz59_0 : w58.cell? ⟨gb120, 0, none⟩ = some (.int .i64 a2_0) := (blk_cell BK120.out 0).trans rfl; have hcz59_1 : w58.cell? ⟨gb120, 1, none⟩ = some (.string a2_1) := (blk_cell BK120.out 1).trans rfl; have hcz59_2 : w58.cell? ⟨gb120, 2, none⟩ = some (.int .i64 a2_2) := (blk_cell BK120.out 2).trans rfl; have hcz59_3 : w58.cell? ⟨gb120, 3, none⟩ = some (.slice A2_3 l2_3.length c2_3) := (blk_cell BK120.out 3).trans rfl; have hfz59_0 := blk_frozen BK120.out 0; have hfz59_1 := blk_frozen BK120.out 1; have hfz59_2 := blk_frozen BK120.out 2; have hfz59_3 := blk_frozen BK120.out 3) | ((with_reducible refine gate_callee (f := 18) rfl ?_); refine goesL_ (some 95) rfl rfl Tryd.func18 (by kernel_rfl) rfl #[.slice A0 l0.length c0, .agg #[.int .i64 a2_0, .string a2_1, .int .i64 a2_2, .slice A2_3 l2_3.length c2_3]] rfl (by (try simp only [List.map_toArray, List.map_cons, List.map_nil]); first | done | rfl | (simp only [List.length_drop, List.length_take]; rfl)) ?_; (with_reducible refine (ashlarref07_Find.calls k _ _ l0 a2_0 a2_1 a2_2 _ _ l2_3 t131 _ ?side1 ?side2 ?side3 ?side4 A54.out).mono ?_); (case side1 => repeat (first | exact (Kd.C_below HR0.out HB.out) | (with_reducible refine Kd.C_alloc ?_ _) | (with_reducible refine Kd.C_drewN ?_ _) | (with_reducible refine Kd.C_drew ?_))); (case side2 => exact HC0.out); (case side3 => repeat (first | exact (Kd.C_below HR2_3.out HB.out) | (with_reducible refine Kd.C_alloc ?_ _) | (with_reducible refine Kd.C_drewN ?_ _) | (with_reducible refine Kd.C_drew ?_))); (case side4 => exact HC2_3.out); rintro e w60 ⟨rfl, hb⟩; refine ⟨_, rfl, ?_⟩; have n0_ := Aside0.mk (blk_below (g := gb120) (o := .cells #[.int .i64 a2_0, .string a2_1, .int .i64 a2_2, .slice A2_3 l2_3.length c2_3] 24 (0, 0)) (by (with_reducible repeat (first | refine blk_drewN ?_ _ | refine blk_drew ?_ | refine blk_alloc ?_ _)); exact BK120.out) hb); have n1_ := Aside0.mk (below_step (by repeat (first | (with_reducible first | exact HB.out | apply below_alloc | apply pw_below_drewN | apply below_drew1 | refine below_set ?_ GE120.out) | exact HB.out)) hb); clear BK120; clear HB; have BK120 := n0_; have HB := n1_; clear n0_ n1_; (try clear hb); (try clear hb2); (try clear hk); (try clear hi)))
                go_ret
                exact ⟨by first | rfl | (simp [errW_none, errW_some] <;> rfl) | (simp only [← hji55, ← hji57]; first | rfl | (simp [errW_none, errW_some] <;> rfl)) | (simp [*, errW_none, errW_some] <;> rfl), by repeat (first | (with_reducible first | exact HB.out | apply below_alloc | apply pw_below_drewN | apply below_drew1 | refine below_set ?_ GE120.out) | exact HB.out)⟩
              · rw [if_neg c56] at H
                exact absurd H (by simp)

end Go.Proofs.YthckboogibhjaaaDoor.PCnfMeans
