-- Written by a program of this session (myprint.py) out of the translation, with contracts of this session given.
import Derived.Test.YthckboogibhjaaaDoorPCnfAtomsx0
namespace Go.Proofs.YthckboogibhjaaaDoor.PCnfAtoms
open Go.RowKit Go.Proofs.YthckboogibhjaaaDoor.Trm Go.Proofs.YthckboogibhjaaaDoorW.PrintWords Go.Proofs.YthckboogibhjaaaDoorW.PrintLast Go.Proofs.YthckboogibhjaaaDoorW.PrintMore
attribute [local go_sem] max2_int min2_int max_two min_two max_three min_three max_four min_four   -- for this text's walks alone
set_option linter.unusedVariables false
set_option linter.unusedSimpArgs false

/-! ### ashlarlaw07_CnfAtoms: function 5 -/
mutual
def ashlarlaw07_CnfAtoms.l0 : Nat → Bool → List (List Int) → List (S24) → Int → Int → Option (Bool)
  | 0, _, _, _, _, _ => none
  | k + 1, x3, x4, x5, x6, x8 => if x8 < (x5.length : Int) then (if 0 ≤ x8 then ((ashlarref03_Sort.f k ((rd_T24 x5 x8).f0) ((rd_T24 x5 x8).f1) ((rd_T24 x5 x8).f2) ((rd_T24 x5 x8).f3)).bind fun bt112 => (if bt112.2 = 0 then (if bt112.1 = 4 then (if ((rd_T24 x5 x8).f0) ≥ 16 then (if ((rd_T24 x5 x8).f0) ≤ 21 then (some false) else ((ashlarref07_Find.f k x5 ((rd_T24 x5 x8).f0) ((rd_T24 x5 x8).f1) ((rd_T24 x5 x8).f2) ((rd_T24 x5 x8).f3)).bind fun t117 => (if t117 = x8 then (ashlarlaw07_CnfAtoms.l0 k x3 x4 x5 x6 (wrap64 (x8 + 1))) else (some false)))) else ((ashlarref07_Find.f k x5 ((rd_T24 x5 x8).f0) ((rd_T24 x5 x8).f1) ((rd_T24 x5 x8).f2) ((rd_T24 x5 x8).f3)).bind fun t119 => (if t119 = x8 then (ashlarlaw07_CnfAtoms.l0 k x3 x4 x5 x6 (wrap64 (x8 + 1))) else (some false)))) else (some false)) else (some false))) else (none)) else (if 0 ≤ (wrap64 (x6 + 1)) then (if (wrap64 (x6 + 1) : Int).toNat ≤ 281474976710656 then (ashlarlaw07_CnfAtoms.l1 k x3 x4 x6 (List.replicate (wrap64 (x6 + 1) : Int).toNat false) 0) else (none)) else (none))
def ashlarlaw07_CnfAtoms.l1 : Nat → Bool → List (List Int) → Int → List Bool → Int → Option (Bool)
  | 0, _, _, _, _, _ => none
  | k + 1, x3, x4, x6, x11, x12 => if x12 < (x4.length : Int) then (ashlarlaw07_CnfAtoms.l2 k x3 x4 x6 x11 x12 0) else (ashlarlaw07_CnfAtoms.l3 k x3 x4 x6 x11 1)
def ashlarlaw07_CnfAtoms.l2 : Nat → Bool → List (List Int) → Int → List Bool → Int → Int → Option (Bool)
  | 0, _, _, _, _, _, _ => none
  | k + 1, x3, x4, x6, x11, x12, x13 => if 0 ≤ x12 then (if x12 < (x4.length : Int) then (if x13 < ((rd_L3 x4 x12).length : Int) then (if 0 ≤ x13 then (if (mx (rd (rd_L3 x4 x12) x13) (wrap64 (-(rd (rd_L3 x4 x12) x13)))) < 1 then (some false) else (if (mx (rd (rd_L3 x4 x12) x13) (wrap64 (-(rd (rd_L3 x4 x12) x13)))) > x6 then (some false) else (if 0 ≤ (mx (rd (rd_L3 x4 x12) x13) (wrap64 (-(rd (rd_L3 x4 x12) x13)))) then (if (mx (rd (rd_L3 x4 x12) x13) (wrap64 (-(rd (rd_L3 x4 x12) x13)))) < (x11.length : Int) then (ashlarlaw07_CnfAtoms.l2 k x3 x4 x6 (x11.set ((mx (rd (rd_L3 x4 x12) x13) (wrap64 (-(rd (rd_L3 x4 x12) x13)))) : Int).toNat true) x12 (wrap64 (x13 + 1))) else (none)) else (none)))) else (none)) else (ashlarlaw07_CnfAtoms.l1 k x3 x4 x6 x11 (wrap64 (x12 + 1)))) else (none)) else (none)
def ashlarlaw07_CnfAtoms.l3 : Nat → Bool → List (List Int) → Int → List Bool → Int → Option (Bool)
  | 0, _, _, _, _, _ => none
  | k + 1, x3, x4, x6, x11, x15 => if x15 ≤ x6 then (if 0 ≤ x15 then (if x15 < (x11.length : Int) then (if rdOf false x11 x15 = true then (ashlarlaw07_CnfAtoms.l3 k x3 x4 x6 x11 (wrap64 (x15 + 1))) else (some false)) else (none)) else (none)) else (if x3 = true then (if (x4.length : Int) > 0 then (if 0 ≤ (wrap64 ((x4.length : Int) - 1)) then (if (wrap64 ((x4.length : Int) - 1)) < (x4.length : Int) then (some (((rd_L3 x4 (wrap64 ((x4.length : Int) - 1))).length : Int) == 1)) else (none)) else (none)) else (some false)) else (some false))
end
def ashlarlaw07_CnfAtoms.f (k : Nat) (a0_0 : Int) (a0_1 : ByteArray) (a0_2 : Int) (l0_3 : List (S24)) : Option (Bool) := (ashlarlaw07_shown.f).bind fun t102 => ((cnf_Clauses.f a0_0 a0_1 a0_2 l0_3).bind fun bt103 => (if bt103.2.2.2 = 0 then (ashlarlaw07_CnfAtoms.l0 k t102 bt103.1 bt103.2.1 bt103.2.2.1 0) else (if t102 = true then (if (bt103.1.length : Int) = 0 then (if (bt103.2.1.length : Int) = 0 then (some (bt103.2.2.1 == 0)) else (some false)) else (some false)) else (some false))))
theorem ashlarlaw07_CnfAtoms.mono_l : ∀ k, (∀ y0 y1 y2 y3 y4, LeO (ashlarlaw07_CnfAtoms.l0 k y0 y1 y2 y3 y4) (ashlarlaw07_CnfAtoms.l0 (k + 1) y0 y1 y2 y3 y4)) ∧ (∀ y0 y1 y2 y3 y4, LeO (ashlarlaw07_CnfAtoms.l1 k y0 y1 y2 y3 y4) (ashlarlaw07_CnfAtoms.l1 (k + 1) y0 y1 y2 y3 y4)) ∧ (∀ y0 y1 y2 y3 y4 y5, LeO (ashlarlaw07_CnfAtoms.l2 k y0 y1 y2 y3 y4 y5) (ashlarlaw07_CnfAtoms.l2 (k + 1) y0 y1 y2 y3 y4 y5)) ∧ (∀ y0 y1 y2 y3 y4, LeO (ashlarlaw07_CnfAtoms.l3 k y0 y1 y2 y3 y4) (ashlarlaw07_CnfAtoms.l3 (k + 1) y0 y1 y2 y3 y4))
  | 0 => ⟨fun _ _ _ _ _ r h => by simp [ashlarlaw07_CnfAtoms.l0] at h, fun _ _ _ _ _ r h => by simp [ashlarlaw07_CnfAtoms.l1] at h, fun _ _ _ _ _ _ r h => by simp [ashlarlaw07_CnfAtoms.l2] at h, fun _ _ _ _ _ r h => by simp [ashlarlaw07_CnfAtoms.l3] at h⟩
  | k + 1 => by
    obtain ⟨ih0, ih1, ih2, ih3⟩ := ashlarlaw07_CnfAtoms.mono_l k
    refine ⟨?_, ?_, ?_, ?_⟩
    · intro y0 y1 y2 y3 y4
      unfold ashlarlaw07_CnfAtoms.l0
      repeat' first
      | (with_reducible exact ih0 _ _ _ _ _)
      | (with_reducible exact ih1 _ _ _ _ _)
      | (with_reducible exact ih2 _ _ _ _ _ _)
      | (with_reducible exact ih3 _ _ _ _ _)
      | (with_reducible exact ashlarref03_Sort.mono _ _ _ _ _)
      | (with_reducible exact ashlarref07_Find.mono _ _ _ _ _ _)
      | (with_reducible exact LeO.refl _)
      | (with_reducible exact LeO.none _)
      | (with_reducible refine LeO.ite ?_ ?_)
      | (with_reducible refine LeO.bind ?_ (fun _ => ?_))
      | exact ih0 _ _ _ _ _
      | exact ih1 _ _ _ _ _
      | exact ih2 _ _ _ _ _ _
      | exact ih3 _ _ _ _ _
      | exact ashlarref03_Sort.mono _ _ _ _ _
      | exact ashlarref07_Find.mono _ _ _ _ _ _
      | exact LeO.none _
      | refine LeO.ite ?_ ?_
      | refine LeO.bind ?_ (fun _ => ?_)
    · intro y0 y1 y2 y3 y4
      unfold ashlarlaw07_CnfAtoms.l1
      repeat' first
      | (with_reducible exact ih0 _ _ _ _ _)
      | (with_reducible exact ih1 _ _ _ _ _)
      | (with_reducible exact ih2 _ _ _ _ _ _)
      | (with_reducible exact ih3 _ _ _ _ _)
      | (with_reducible exact ashlarref03_Sort.mono _ _ _ _ _)
      | (with_reducible exact ashlarref07_Find.mono _ _ _ _ _ _)
      | (with_reducible exact LeO.refl _)
      | (with_reducible exact LeO.none _)
      | (with_reducible refine LeO.ite ?_ ?_)
      | (with_reducible refine LeO.bind ?_ (fun _ => ?_))
      | exact ih0 _ _ _ _ _
      | exact ih1 _ _ _ _ _
      | exact ih2 _ _ _ _ _ _
      | exact ih3 _ _ _ _ _
      | exact ashlarref03_Sort.mono _ _ _ _ _
      | exact ashlarref07_Find.mono _ _ _ _ _ _
      | exact LeO.none _
      | refine LeO.ite ?_ ?_
      | refine LeO.bind ?_ (fun _ => ?_)
    · intro y0 y1 y2 y3 y4 y5
      unfold ashlarlaw07_CnfAtoms.l2
      repeat' first
      | (with_reducible exact ih0 _ _ _ _ _)
      | (with_reducible exact ih1 _ _ _ _ _)
      | (with_reducible exact ih2 _ _ _ _ _ _)
      | (with_reducible exact ih3 _ _ _ _ _)
      | (with_reducible exact ashlarref03_Sort.mono _ _ _ _ _)
      | (with_reducible exact ashlarref07_Find.mono _ _ _ _ _ _)
      | (with_reducible exact LeO.refl _)
      | (with_reducible exact LeO.none _)
      | (with_reducible refine LeO.ite ?_ ?_)
      | (with_reducible refine LeO.bind ?_ (fun _ => ?_))
      | exact ih0 _ _ _ _ _
      | exact ih1 _ _ _ _ _
      | exact ih2 _ _ _ _ _ _
      | exact ih3 _ _ _ _ _
      | exact ashlarref03_Sort.mono _ _ _ _ _
      | exact ashlarref07_Find.mono _ _ _ _ _ _
      | exact LeO.none _
      | refine LeO.ite ?_ ?_
      | refine LeO.bind ?_ (fun _ => ?_)
    · intro y0 y1 y2 y3 y4
      unfold ashlarlaw07_CnfAtoms.l3
      repeat' first
      | (with_reducible exact ih0 _ _ _ _ _)
      | (with_reducible exact ih1 _ _ _ _ _)
      | (with_reducible exact ih2 _ _ _ _ _ _)
      | (with_reducible exact ih3 _ _ _ _ _)
      | (with_reducible exact ashlarref03_Sort.mono _ _ _ _ _)
      | (with_reducible exact ashlarref07_Find.mono _ _ _ _ _ _)
      | (with_reducible exact LeO.refl _)
      | (with_reducible exact LeO.none _)
      | (with_reducible refine LeO.ite ?_ ?_)
      | (with_reducible refine LeO.bind ?_ (fun _ => ?_))
      | exact ih0 _ _ _ _ _
      | exact ih1 _ _ _ _ _
      | exact ih2 _ _ _ _ _ _
      | exact ih3 _ _ _ _ _
      | exact ashlarref03_Sort.mono _ _ _ _ _
      | exact ashlarref07_Find.mono _ _ _ _ _ _
      | exact LeO.none _
      | refine LeO.ite ?_ ?_
      | refine LeO.bind ?_ (fun _ => ?_)
theorem ashlarlaw07_CnfAtoms.mono : ∀ a0 a1 a2 a3 k, LeO (ashlarlaw07_CnfAtoms.f k a0 a1 a2 a3) (ashlarlaw07_CnfAtoms.f (k + 1) a0 a1 a2 a3) := by
  intro a0 a1 a2 a3 k
  obtain ⟨ih0, ih1, ih2, ih3⟩ := ashlarlaw07_CnfAtoms.mono_l k
  unfold ashlarlaw07_CnfAtoms.f
  repeat' first
      | (with_reducible exact ih0 _ _ _ _ _)
      | (with_reducible exact ih1 _ _ _ _ _)
      | (with_reducible exact ih2 _ _ _ _ _ _)
      | (with_reducible exact ih3 _ _ _ _ _)
      | (with_reducible exact ashlarref03_Sort.mono _ _ _ _ _)
      | (with_reducible exact ashlarref07_Find.mono _ _ _ _ _ _)
      | (with_reducible exact LeO.refl _)
      | (with_reducible exact LeO.none _)
      | (with_reducible refine LeO.ite ?_ ?_)
      | (with_reducible refine LeO.bind ?_ (fun _ => ?_))
      | exact ih0 _ _ _ _ _
      | exact ih1 _ _ _ _ _
      | exact ih2 _ _ _ _ _ _
      | exact ih3 _ _ _ _ _
      | exact ashlarref03_Sort.mono _ _ _ _ _
      | exact ashlarref07_Find.mono _ _ _ _ _ _
      | exact LeO.none _
      | refine LeO.ite ?_ ?_
      | refine LeO.bind ?_ (fun _ => ?_)
set_option maxHeartbeats 8000000 in
set_option maxRecDepth 100000 in
theorem ashlarlaw07_CnfAtoms.calls (k : Nat) (a0_0 : Int) (a0_1 : ByteArray) (a0_2 : Int) (A0_3 : Option Addr) (c0_3 : Nat) (l0_3 : List (S24)) (r : Bool) (w : World) (hr : r = true) (hr0_3 : Kd.C k24 w A0_3 l0_3.length l0_3) (hc0_3 : l0_3.length ≤ c0_3) (h : ashlarlaw07_CnfAtoms.f k a0_0 a0_1 a0_2 l0_3 = some r) :
    Calls Tryd.prog 5 #[.agg #[.int .i64 a0_0, .string a0_1, .int .i64 a0_2, .slice A0_3 l0_3.length c0_3]] w fun e w' => e = .returned (.bool r) ∧ Below w.heap.size w w' := by
  have hu24 := Tryd.underlying24
  have HR0_3 := Aside0.mk hr0_3
  have HC0_3 := Aside0.mk hc0_3
  clear hr0_3 hc0_3
  have HB := Aside0.mk (Below.refl w.heap.size w)
  have H : ((ashlarlaw07_shown.f).bind fun t102 => ((cnf_Clauses.f a0_0 a0_1 a0_2 l0_3).bind fun bt103 => (if bt103.2.2.2 = 0 then (ashlarlaw07_CnfAtoms.l0 k t102 bt103.1 bt103.2.1 bt103.2.2.1 0) else (if t102 = true then (if (bt103.1.length : Int) = 0 then (if (bt103.2.1.length : Int) = 0 then (some (bt103.2.2.1 == 0)) else (some false)) else (some false)) else (some false))))) = some r := h
  clear h
  replace H := Option.bind_eq_some_iff.mp H
  obtain ⟨t102, A20, H⟩ := H
  replace H : ((cnf_Clauses.f a0_0 a0_1 a0_2 l0_3).bind fun bt103 => (if bt103.2.2.2 = 0 then (ashlarlaw07_CnfAtoms.l0 k t102 bt103.1 bt103.2.1 bt103.2.2.1 0) else (if t102 = true then (if (bt103.1.length : Int) = 0 then (if (bt103.2.1.length : Int) = 0 then (some (bt103.2.2.1 == 0)) else (some false)) else (some false)) else (some false)))) = some r := H
  have A2 := Aside0.mk A20
  clear A20
  replace H := Option.bind_eq_some_iff.mp H
  obtain ⟨⟨t103, t106, t109, t110⟩, A30, H⟩ := H
  replace H : (if t110 = 0 then (ashlarlaw07_CnfAtoms.l0 k t102 t103 t106 t109 0) else (if t102 = true then (if (t103.length : Int) = 0 then (if (t106.length : Int) = 0 then (some (t109 == 0)) else (some false)) else (some false)) else (some false))) = some r := H
  have A3 := Aside0.mk A30
  clear A30
  by_cases c4 : t110 = 0
  · rw [if_pos c4] at H
    have c4b0 : (t110 == 0) = true := beq_iff_eq.mpr c4
    have c4b1 : (t110 != 0) = false := bne_eq_false_iff_eq.mpr c4
    clear c4
    have H' := Aside0.mk H
    clear H
    go_enter Tryd.func5, Tryd.ntmps5
    go_wp2_with (first | ((with_reducible refine gate_dst (N := 1) rfl ?_); (try (refine gate_guard (by rfl) ?_; dsimp only)); refine box_event ?hg (N := 1) ?hd (cs := #[.int .i64 a0_0, .string a0_1, .int .i64 a0_2, .slice A0_3 l0_3.length c0_3]) (t := 24) ?hr ?_; (case hd => rfl); (case hg => rfl); (case hr => first | (go_simp; done) | (go_simp; rfl)); intro gb101 hg w5 hbox hb; have n0_ := Aside0.mk (below_step (by repeat (first | (with_reducible first | exact HB.out | apply below_alloc | apply pw_below_drewN | apply below_drew1) | exact HB.out)) hb); have n1_ := Aside0.mk (hbox); have n2_ := Aside0.mk ((by rw [hg]; exact (below_size (by repeat (first | (with_reducible first | exact HB.out | apply below_alloc | apply pw_below_drewN | apply below_drew1) | exact HB.out))) : w.heap.size ≤ gb101)); have n3_ := Aside0.mk ((by rw [hg]; exact (below_size (by repeat (first | (with_reducible first | exact HB.out | apply below_alloc | apply pw_below_drewN | apply below_drew1) | exact HB.out))) : w.heap.size ≤ gb101)); clear HB; have HB := n0_; have BK101 := n1_; have GW101 := n2_; have GE101 := n3_; clear n0_ n1_ n2_ n3_; clear hb hbox hg) | (go_at_call 9; (with_reducible refine (ashlarlaw07_shown.calls  t102 _ A2.out).mono ?_); rintro e w6 ⟨rfl, hb⟩; have n0_ := Aside0.mk (blk_below (g := gb101) (o := .cells #[.int .i64 a0_0, .string a0_1, .int .i64 a0_2, .slice A0_3 l0_3.length c0_3] 24 (0, 0)) (by (with_reducible repeat (first | refine blk_drewN ?_ _ | refine blk_drew ?_ | refine blk_alloc ?_ _)); exact BK101.out) hb); have n1_ := Aside0.mk (below_step (by repeat (first | (with_reducible first | exact HB.out | apply below_alloc | apply pw_below_drewN | apply below_drew1 | refine below_set ?_ GE101.out) | exact HB.out)) hb); clear BK101; clear HB; have BK101 := n0_; have HB := n1_; clear n0_ n1_; (try clear hb); (try clear hb2); (try clear hk); (try clear hi); have hcz7_0 : w6.cell? ⟨gb101, 0, none⟩ = some (.int .i64 a0_0) := (blk_cell BK101.out 0).trans rfl; have hcz7_1 : w6.cell? ⟨gb101, 1, none⟩ = some (.string a0_1) := (blk_cell BK101.out 1).trans rfl; have hcz7_2 : w6.cell? ⟨gb101, 2, none⟩ = some (.int .i64 a0_2) := (blk_cell BK101.out 2).trans rfl; have hcz7_3 : w6.cell? ⟨gb101, 3, none⟩ = some (.slice A0_3 l0_3.length c0_3) := (blk_cell BK101.out 3).trans rfl; have hfz7_0 := blk_frozen BK101.out 0; have hfz7_1 := blk_frozen BK101.out 1; have hfz7_2 := blk_frozen BK101.out 2; have hfz7_3 := blk_frozen BK101.out 3) | (go_at_call 10; (with_reducible refine (cnf_Clauses.calls a0_0 a0_1 a0_2 (fun k_ => k_ < w.heap.size) _ _ l0_3 t103 t106 t109 t110 _ ?side1 A3.out).mono ?_); (case side1 => exact Kd.V_mk HC0_3.out (Kd.F_below (Kd.C_F k24_heap HR0_3.out) (by repeat (first | (with_reducible first | exact HB.out | apply below_alloc | apply pw_below_drewN | apply below_drew1 | refine below_set ?_ GE101.out) | exact HB.out)))); rintro e w8 ⟨v104, v107, rfl, ho0, ho1, hb⟩; have n0_ := Aside0.mk (Kd.N_lower (Kd.N_mono (ok' := fun k_ => k_ ≠ gb101) ho0 (fun k_ hk_ => Or.elim hk_ (fun hs_ => fun e_ => Nat.not_le.2 hs_ (by rw [e_]; exact GW101.out)) (fun hn_ => (Kd.freshB (g := gb101) (o := .cells #[.int .i64 a0_0, .string a0_1, .int .i64 a0_2, .slice A0_3 l0_3.length c0_3] 24 (0, 0)) (by (with_reducible repeat (first | refine blk_drewN ?_ _ | refine blk_drew ?_ | refine blk_alloc ?_ _)); exact BK101.out) k_ hn_)))) (below_size (by repeat (first | (with_reducible first | exact HB.out | apply below_alloc | apply pw_below_drewN | apply below_drew1 | refine below_set ?_ GE101.out) | exact HB.out)))); have n1_ := Aside0.mk (Kd.V_lower (Kd.V_mono (ok' := fun k_ => some k_ ≠ (v104 : Value).ownBlock ∧ k_ ≠ gb101) ho1 (fun k_ hk_ => ⟨hk_.2, Or.elim hk_.1 (fun hs_ => fun e_ => Nat.not_le.2 hs_ (by rw [e_]; exact GW101.out)) (fun hn_ => (Kd.freshB (g := gb101) (o := .cells #[.int .i64 a0_0, .string a0_1, .int .i64 a0_2, .slice A0_3 l0_3.length c0_3] 24 (0, 0)) (by (with_reducible repeat (first | refine blk_drewN ?_ _ | refine blk_drew ?_ | refine blk_alloc ?_ _)); exact BK101.out) k_ hn_))⟩)) (below_size (by repeat (first | (with_reducible first | exact HB.out | apply below_alloc | apply pw_below_drewN | apply below_drew1 | refine below_set ?_ GE101.out) | exact HB.out)))); have n2_ := Aside0.mk (blk_below (g := gb101) (o := .cells #[.int .i64 a0_0, .string a0_1, .int .i64 a0_2, .slice A0_3 l0_3.length c0_3] 24 (0, 0)) (by (with_reducible repeat (first | refine blk_drewN ?_ _ | refine blk_drew ?_ | refine blk_alloc ?_ _)); exact BK101.out) hb); have n3_ := Aside0.mk (below_step (by repeat (first | (with_reducible first | exact HB.out | apply below_alloc | apply pw_below_drewN | apply below_drew1 | refine below_set ?_ GE101.out) | exact HB.out)) hb); clear BK101; clear HB; have HO105 := n0_; have HO108 := n1_; have BK101 := n2_; have HB := n3_; clear n0_ n1_ n2_ n3_; (try clear hb); (try clear hb2); (try clear hk); (try clear hi); (try clear ho0); (try clear ho1)))
    repeat (go_quiet (first | ((with_reducible refine gate_dst (N := 1) rfl ?_); (try (refine gate_guard (by rfl) ?_; dsimp only)); refine box_event ?hg (N := 1) ?hd (cs := #[.int .i64 a0_0, .string a0_1, .int .i64 a0_2, .slice A0_3 l0_3.length c0_3]) (t := 24) ?hr ?_; (case hd => rfl); (case hg => rfl); (case hr => first | (go_simp; done) | (go_simp; rfl)); intro gb101 hg w5 hbox hb; have n0_ := Aside0.mk (below_step (by repeat (first | (with_reducible first | exact HB.out | apply below_alloc | apply pw_below_drewN | apply below_drew1) | exact HB.out)) hb); have n1_ := Aside0.mk (hbox); have n2_ := Aside0.mk ((by rw [hg]; exact (below_size (by repeat (first | (with_reducible first | exact HB.out | apply below_alloc | apply pw_below_drewN | apply below_drew1) | exact HB.out))) : w.heap.size ≤ gb101)); have n3_ := Aside0.mk ((by rw [hg]; exact (below_size (by repeat (first | (with_reducible first | exact HB.out | apply below_alloc | apply pw_below_drewN | apply below_drew1) | exact HB.out))) : w.heap.size ≤ gb101)); clear HB; have HB := n0_; have BK101 := n1_; have GW101 := n2_; have GE101 := n3_; clear n0_ n1_ n2_ n3_; clear hb hbox hg) | (go_at_call 9; (with_reducible refine (ashlarlaw07_shown.calls  t102 _ A2.out).mono ?_); rintro e w6 ⟨rfl, hb⟩; have n0_ := Aside0.mk (blk_below (g := gb101) (o := .cells #[.int .i64 a0_0, .string a0_1, .int .i64 a0_2, .slice A0_3 l0_3.length c0_3] 24 (0, 0)) (by (with_reducible repeat (first | refine blk_drewN ?_ _ | refine blk_drew ?_ | refine blk_alloc ?_ _)); exact BK101.out) hb); have n1_ := Aside0.mk (below_step (by repeat (first | (with_reducible first | exact HB.out | apply below_alloc | apply pw_below_drewN | apply below_drew1 | refine below_set ?_ GE101.out) | exact HB.out)) hb); clear BK101; clear HB; have BK101 := n0_; have HB := n1_; clear n0_ n1_; (try clear hb); (try clear hb2); (try clear hk); (try clear hi); have hcz7_0 : w6.cell? ⟨gb101, 0, none⟩ = some (.int .i64 a0_0) := (blk_cell BK101.out 0).trans rfl; have hcz7_1 : w6.cell? ⟨gb101, 1, none⟩ = some (.string a0_1) := (blk_cell BK101.out 1).trans rfl; have hcz7_2 : w6.cell? ⟨gb101, 2, none⟩ = some (.int .i64 a0_2) := (blk_cell BK101.out 2).trans rfl; have hcz7_3 : w6.cell? ⟨gb101, 3, none⟩ = some (.slice A0_3 l0_3.length c0_3) := (blk_cell BK101.out 3).trans rfl; have hfz7_0 := blk_frozen BK101.out 0; have hfz7_1 := blk_frozen BK101.out 1; have hfz7_2 := blk_frozen BK101.out 2; have hfz7_3 := blk_frozen BK101.out 3) | (go_at_call 10; (with_reducible refine (cnf_Clauses.calls a0_0 a0_1 a0_2 (fun k_ => k_ < w.heap.size) _ _ l0_3 t103 t106 t109 t110 _ ?side1 A3.out).mono ?_); (case side1 => exact Kd.V_mk HC0_3.out (Kd.F_below (Kd.C_F k24_heap HR0_3.out) (by repeat (first | (with_reducible first | exact HB.out | apply below_alloc | apply pw_below_drewN | apply below_drew1 | refine below_set ?_ GE101.out) | exact HB.out)))); rintro e w8 ⟨v104, v107, rfl, ho0, ho1, hb⟩; have n0_ := Aside0.mk (Kd.N_lower (Kd.N_mono (ok' := fun k_ => k_ ≠ gb101) ho0 (fun k_ hk_ => Or.elim hk_ (fun hs_ => fun e_ => Nat.not_le.2 hs_ (by rw [e_]; exact GW101.out)) (fun hn_ => (Kd.freshB (g := gb101) (o := .cells #[.int .i64 a0_0, .string a0_1, .int .i64 a0_2, .slice A0_3 l0_3.length c0_3] 24 (0, 0)) (by (with_reducible repeat (first | refine blk_drewN ?_ _ | refine blk_drew ?_ | refine blk_alloc ?_ _)); exact BK101.out) k_ hn_)))) (below_size (by repeat (first | (with_reducible first | exact HB.out | apply below_alloc | apply pw_below_drewN | apply below_drew1 | refine below_set ?_ GE101.out) | exact HB.out)))); have n1_ := Aside0.mk (Kd.V_lower (Kd.V_mono (ok' := fun k_ => some k_ ≠ (v104 : Value).ownBlock ∧ k_ ≠ gb101) ho1 (fun k_ hk_ => ⟨hk_.2, Or.elim hk_.1 (fun hs_ => fun e_ => Nat.not_le.2 hs_ (by rw [e_]; exact GW101.out)) (fun hn_ => (Kd.freshB (g := gb101) (o := .cells #[.int .i64 a0_0, .string a0_1, .int .i64 a0_2, .slice A0_3 l0_3.length c0_3] 24 (0, 0)) (by (with_reducible repeat (first | refine blk_drewN ?_ _ | refine blk_drew ?_ | refine blk_alloc ?_ _)); exact BK101.out) k_ hn_))⟩)) (below_size (by repeat (first | (with_reducible first | exact HB.out | apply below_alloc | apply pw_below_drewN | apply below_drew1 | refine below_set ?_ GE101.out) | exact HB.out)))); have n2_ := Aside0.mk (blk_below (g := gb101) (o := .cells #[.int .i64 a0_0, .string a0_1, .int .i64 a0_2, .slice A0_3 l0_3.length c0_3] 24 (0, 0)) (by (with_reducible repeat (first | refine blk_drewN ?_ _ | refine blk_drew ?_ | refine blk_alloc ?_ _)); exact BK101.out) hb); have n3_ := Aside0.mk (below_step (by repeat (first | (with_reducible first | exact HB.out | apply below_alloc | apply pw_below_drewN | apply below_drew1 | refine below_set ?_ GE101.out) | exact HB.out)) hb); clear BK101; clear HB; have HO105 := n0_; have HO108 := n1_; have BK101 := n2_; have HB := n3_; clear n0_ n1_ n2_ n3_; (try clear hb); (try clear hb2); (try clear hk); (try clear hi); (try clear ho0); (try clear ho1))); try go_wp2_with (first | ((with_reducible refine gate_dst (N := 1) rfl ?_); (try (refine gate_guard (by rfl) ?_; dsimp only)); refine box_event ?hg (N := 1) ?hd (cs := #[.int .i64 a0_0, .string a0_1, .int .i64 a0_2, .slice A0_3 l0_3.length c0_3]) (t := 24) ?hr ?_; (case hd => rfl); (case hg => rfl); (case hr => first | (go_simp; done) | (go_simp; rfl)); intro gb101 hg w5 hbox hb; have n0_ := Aside0.mk (below_step (by repeat (first | (with_reducible first | exact HB.out | apply below_alloc | apply pw_below_drewN | apply below_drew1) | exact HB.out)) hb); have n1_ := Aside0.mk (hbox); have n2_ := Aside0.mk ((by rw [hg]; exact (below_size (by repeat (first | (with_reducible first | exact HB.out | apply below_alloc | apply pw_below_drewN | apply below_drew1) | exact HB.out))) : w.heap.size ≤ gb101)); have n3_ := Aside0.mk ((by rw [hg]; exact (below_size (by repeat (first | (with_reducible first | exact HB.out | apply below_alloc | apply pw_below_drewN | apply below_drew1) | exact HB.out))) : w.heap.size ≤ gb101)); clear HB; have HB := n0_; have BK101 := n1_; have GW101 := n2_; have GE101 := n3_; clear n0_ n1_ n2_ n3_; clear hb hbox hg) | (go_at_call 9; (with_reducible refine (ashlarlaw07_shown.calls  t102 _ A2.out).mono ?_); rintro e w6 ⟨rfl, hb⟩; have n0_ := Aside0.mk (blk_below (g := gb101) (o := .cells #[.int .i64 a0_0, .string a0_1, .int .i64 a0_2, .slice A0_3 l0_3.length c0_3] 24 (0, 0)) (by (with_reducible repeat (first | refine blk_drewN ?_ _ | refine blk_drew ?_ | refine blk_alloc ?_ _)); exact BK101.out) hb); have n1_ := Aside0.mk (below_step (by repeat (first | (with_reducible first | exact HB.out | apply below_alloc | apply pw_below_drewN | apply below_drew1 | refine below_set ?_ GE101.out) | exact HB.out)) hb); clear BK101; clear HB; have BK101 := n0_; have HB := n1_; clear n0_ n1_; (try clear hb); (try clear hb2); (try clear hk); (try clear hi); have hcz7_0 : w6.cell? ⟨gb101, 0, none⟩ = some (.int .i64 a0_0) := (blk_cell BK101.out 0).trans rfl; have hcz7_1 : w6.cell? ⟨gb101, 1, none⟩ = some (.string a0_1) := (blk_cell BK101.out 1).trans rfl; have hcz7_2 : w6.cell? ⟨gb101, 2, none⟩ = some (.int .i64 a0_2) := (blk_cell BK101.out 2).trans rfl; have hcz7_3 : w6.cell? ⟨gb101, 3, none⟩ = some (.slice A0_3 l0_3.length c0_3) := (blk_cell BK101.out 3).trans rfl; have hfz7_0 := blk_frozen BK101.out 0; have hfz7_1 := blk_frozen BK101.out 1; have hfz7_2 := blk_frozen BK101.out 2; have hfz7_3 := blk_frozen BK101.out 3) | (go_at_call 10; (with_reducible refine (cnf_Clauses.calls a0_0 a0_1 a0_2 (fun k_ => k_ < w.heap.size) _ _ l0_3 t103 t106 t109 t110 _ ?side1 A3.out).mono ?_); (case side1 => exact Kd.V_mk HC0_3.out (Kd.F_below (Kd.C_F k24_heap HR0_3.out) (by repeat (first | (with_reducible first | exact HB.out | apply below_alloc | apply pw_below_drewN | apply below_drew1 | refine below_set ?_ GE101.out) | exact HB.out)))); rintro e w8 ⟨v104, v107, rfl, ho0, ho1, hb⟩; have n0_ := Aside0.mk (Kd.N_lower (Kd.N_mono (ok' := fun k_ => k_ ≠ gb101) ho0 (fun k_ hk_ => Or.elim hk_ (fun hs_ => fun e_ => Nat.not_le.2 hs_ (by rw [e_]; exact GW101.out)) (fun hn_ => (Kd.freshB (g := gb101) (o := .cells #[.int .i64 a0_0, .string a0_1, .int .i64 a0_2, .slice A0_3 l0_3.length c0_3] 24 (0, 0)) (by (with_reducible repeat (first | refine blk_drewN ?_ _ | refine blk_drew ?_ | refine blk_alloc ?_ _)); exact BK101.out) k_ hn_)))) (below_size (by repeat (first | (with_reducible first | exact HB.out | apply below_alloc | apply pw_below_drewN | apply below_drew1 | refine below_set ?_ GE101.out) | exact HB.out)))); have n1_ := Aside0.mk (Kd.V_lower (Kd.V_mono (ok' := fun k_ => some k_ ≠ (v104 : Value).ownBlock ∧ k_ ≠ gb101) ho1 (fun k_ hk_ => ⟨hk_.2, Or.elim hk_.1 (fun hs_ => fun e_ => Nat.not_le.2 hs_ (by rw [e_]; exact GW101.out)) (fun hn_ => (Kd.freshB (g := gb101) (o := .cells #[.int .i64 a0_0, .string a0_1, .int .i64 a0_2, .slice A0_3 l0_3.length c0_3] 24 (0, 0)) (by (with_reducible repeat (first | refine blk_drewN ?_ _ | refine blk_drew ?_ | refine blk_alloc ?_ _)); exact BK101.out) k_ hn_))⟩)) (below_size (by repeat (first | (with_reducible first | exact HB.out | apply below_alloc | apply pw_below_drewN | apply below_drew1 | refine below_set ?_ GE101.out) | exact HB.out)))); have n2_ := Aside0.mk (blk_below (g := gb101) (o := .cells #[.int .i64 a0_0, .string a0_1, .int .i64 a0_2, .slice A0_3 l0_3.length c0_3] 24 (0, 0)) (by (with_reducible repeat (first | refine blk_drewN ?_ _ | refine blk_drew ?_ | refine blk_alloc ?_ _)); exact BK101.out) hb); have n3_ := Aside0.mk (below_step (by repeat (first | (with_reducible first | exact HB.out | apply below_alloc | apply pw_below_drewN | apply below_drew1 | refine below_set ?_ GE101.out) | exact HB.out)) hb); clear BK101; clear HB; have HO105 := n0_; have HO108 := n1_; have BK101 := n2_; have HB := n3_; clear n0_ n1_ n2_ n3_; (try clear hb); (try clear hb2); (try clear hk); (try clear hi); (try clear ho0); (try clear ho1))))
    go_loopg [8] k (fun kq v8 w' => ∃ (x8_1 : Int), v8 = .int .i64 x8_1 ∧ Aside0 (ashlarlaw07_CnfAtoms.l0 kq t102 t103 t106 t109 x8_1 = some r) ∧ Aside0 (kq ≤ k) ∧ Aside0 (Kd.N (Kd.slice 3 (Kd.int .i64)) 32 w' w.heap.size (fun k_ => k_ ≠ gb101) v104 t103) ∧ Aside0 (Kd.V k24 24 w' w.heap.size (fun k_ => some k_ ≠ (v104 : Value).ownBlock ∧ k_ ≠ gb101) v107 t106) ∧ Aside0 (w'.heap[gb101]? = some (.cells #[.int .i64 a0_0, .string a0_1, .int .i64 a0_2, (.slice A0_3 l0_3.length c0_3)] 24 (0, 0))) ∧ Aside0 (Below w.heap.size w w'))
    case atStart => exact ⟨(0), (by first | rfl | (simp; done) | (simp [*]; done)), H', ⟨Nat.le_refl _⟩, ⟨by (with_reducible repeat (first | apply Kd.N_alloc | apply Kd.N_drewN | apply Kd.N_drew)); exact HO105.out⟩, ⟨by (with_reducible repeat (first | apply Kd.V_alloc | apply Kd.V_drewN | apply Kd.V_drew)); exact HO108.out⟩, ⟨by (with_reducible repeat (first | refine blk_drewN ?_ _ | refine blk_drew ?_ | refine blk_alloc ?_ _)); exact BK101.out⟩, ⟨by repeat (first | (with_reducible first | exact HB.out | apply below_alloc | apply pw_below_drewN | apply below_drew1 | refine below_set ?_ GE101.out) | exact HB.out)⟩⟩
    case round =>
      clear H'
      try clear p2
      try clear c4
      try clear c4b0
      try clear c4b1
      try clear c5
      try clear hcz7_0
      try clear hcz7_1
      try clear hcz7_2
      try clear hcz7_3
      try clear hfz7_0
      try clear hfz7_1
      try clear hfz7_2
      try clear hfz7_3
      obtain ⟨x8_1, rfl, HA, HK1, HO_4, HO_5, BK101, HB⟩ := hrel
      cases gk with
      | zero => exact absurd HA.out (by simp [ashlarlaw07_CnfAtoms.l0])
      | succ k1 =>
        have H := HA.out
        clear HA
        simp only [ashlarlaw07_CnfAtoms.l0] at H
        by_cases c9 : x8_1 < (t106.length : Int)
        · rw [if_pos c9] at H
          have c9b0 : decide (x8_1 < (t106.length : Int)) = true := decide_eq_true c9
          clear c9
          by_cases c10 : 0 ≤ x8_1
          · rw [if_pos c10] at H
            have c10b0 : decide (0 ≤ x8_1) = true := decide_eq_true c10
            clear c10
            replace H := Option.bind_eq_some_iff.mp H
            obtain ⟨⟨t112, t113⟩, A110, H⟩ := H
            replace H : (if t113 = 0 then (if t112 = 4 then (if ((rd_T24 t106 x8_1).f0) ≥ 16 then (if ((rd_T24 t106 x8_1).f0) ≤ 21 then (some false) else ((ashlarref07_Find.f k1 t106 ((rd_T24 t106 x8_1).f0) ((rd_T24 t106 x8_1).f1) ((rd_T24 t106 x8_1).f2) ((rd_T24 t106 x8_1).f3)).bind fun t117 => (if t117 = x8_1 then (ashlarlaw07_CnfAtoms.l0 k1 t102 t103 t106 t109 (wrap64 (x8_1 + 1))) else (some false)))) else ((ashlarref07_Find.f k1 t106 ((rd_T24 t106 x8_1).f0) ((rd_T24 t106 x8_1).f1) ((rd_T24 t106 x8_1).f2) ((rd_T24 t106 x8_1).f3)).bind fun t119 => (if t119 = x8_1 then (ashlarlaw07_CnfAtoms.l0 k1 t102 t103 t106 t109 (wrap64 (x8_1 + 1))) else (some false)))) else (some false)) else (some false)) = some r := H
            have A11 := Aside0.mk A110
            clear A110
            by_cases c12 : t113 = 0
            · rw [if_pos c12] at H
              have c12b0 : (t113 == 0) = true := beq_iff_eq.mpr c12
              have c12b1 : (t113 != 0) = false := bne_eq_false_iff_eq.mpr c12
              clear c12
              by_cases c13 : t112 = 4
              · rw [if_pos c13] at H
                have c13b0 : (t112 == 4) = true := beq_iff_eq.mpr c13
                have c13b1 : (t112 != 4) = false := bne_eq_false_iff_eq.mpr c13
                clear c13
                by_cases c14 : ((rd_T24 t106 x8_1).f0) ≥ 16
                · rw [if_pos c14] at H
                  have c14b0 : decide (16 ≤ ((rd_T24 t106 x8_1).f0)) = true := decide_eq_true c14
                  clear c14
                  by_cases c15 : ((rd_T24 t106 x8_1).f0) ≤ 21
                  · rw [if_pos c15] at H
                    have c15b0 : decide (((rd_T24 t106 x8_1).f0) ≤ 21) = true := decide_eq_true c15
                    clear c15
                    exact absurd (Option.some.inj H) (by rw [hr]; decide)
                  · rw [if_neg c15] at H
                    have c15b0 : decide (((rd_T24 t106 x8_1).f0) ≤ 21) = false := decide_eq_false c15
                    clear c15
                    replace H := Option.bind_eq_some_iff.mp H
                    obtain ⟨t117, A180, H⟩ := H
                    replace H : (if t117 = x8_1 then (ashlarlaw07_CnfAtoms.l0 k1 t102 t103 t106 t109 (wrap64 (x8_1 + 1))) else (some false)) = some r := H
                    have A18 := Aside0.mk A180
                    clear A180
                    by_cases c19 : t117 = x8_1
                    · rw [if_pos c19] at H
                      have c19b0 : (t117 == x8_1) = true := beq_iff_eq.mpr c19
                      have c19b1 : (t117 != x8_1) = false := bne_eq_false_iff_eq.mpr c19
                      clear c19
                      have H' := Aside0.mk H
                      clear H
                      obtain ⟨Ao20, co20, eo20⟩ := Kd.V_slice HO_5.out
                      subst eo20
                      have p111 : 0 ≤ (x8_1 : Int) := of_decide_eq_true (by first | (with_reducible assumption) | assumption)
                      have q111 : x8_1 < (t106.length : Int) := of_decide_eq_true (by first | (with_reducible assumption) | assumption)
                      obtain ⟨ad111, A111_3, c111_3, e111, hx111_0, hx111_1, hx111_2, hx111_3, hl111_3, hi111_3⟩ := at_T24 (Kd.V_reads' HO_5.out).2.2 x8_1 p111 q111
                      cases e111
                      obtain ⟨ce111, hce111, hMe111, hcc111⟩ := Kd.V_get HO_5.out z24 x8_1 p111 (by first | exact q111 | exact of_decide_eq_true (by first | (with_reducible assumption) | assumption) | (have e_ := (Kd.V_reads' HO_5.out).1; omega))
                      obtain ⟨ua111_3, uc111_3, rfl, ul111_3, ge111_3⟩ := k24_openF hMe111
                      have hv111_3 := hcc111 3 _ rfl
                      rw [add_field _ _ 3 (by omega)] at hv111_3
                      replace hv111_3 := Option.some.inj (hv111_3.symm.trans hx111_3)
                      injection hv111_3 with hva_ hvn_ hvc_
                      rw [hva_] at ge111_3
                      rw [hvc_] at ul111_3
                      have HL111_3 := Aside0.mk (show Kd.V k24 24 _ w.heap.size _ _ ((rd_T24 t106 x8_1).f3) from Kd.V_mk ul111_3 ge111_3)
                      clear hva_ hvn_ hvc_ ge111_3 ul111_3
                      clear hcc111 hce111
                      have HR111_3 := Aside0.mk hi111_3
                      have HC111_3 := Aside0.mk hl111_3
                      clear hi111_3 hl111_3
                      replace p111 := eq_true p111
                      replace q111 := eq_true q111
                      go_wp2_with (first | (go_at_call 17; (with_reducible refine (ashlarref03_Sort.calls k1 ((rd_T24 t106 x8_1).f0) ((rd_T24 t106 x8_1).f1) ((rd_T24 t106 x8_1).f2) _ _ ((rd_T24 t106 x8_1).f3) t112 t113 _ ?side1 ?side2 A11.out).mono ?_); (case side1 => repeat (first | exact (by repeat (first | (with_reducible exact HR111_3.out) | (with_reducible refine Kd.C_alloc ?_ _) | (with_reducible refine Kd.C_drewN ?_ _) | (with_reducible refine Kd.C_drew ?_) | exact HR111_3.out)) | (with_reducible refine Kd.C_alloc ?_ _) | (with_reducible refine Kd.C_drewN ?_ _) | (with_reducible refine Kd.C_drew ?_))); (case side2 => exact HC111_3.out); rintro e w21 ⟨rfl, hb⟩; have n0_ := Aside0.mk (Kd.N_below (by (with_reducible repeat (first | apply Kd.N_alloc | apply Kd.N_drewN | apply Kd.N_drew)); exact HO_4.out) hb); have n1_ := Aside0.mk (Kd.V_below (by (with_reducible repeat (first | apply Kd.V_alloc | apply Kd.V_drewN | apply Kd.V_drew)); exact HO_5.out) hb); have n2_ := Aside0.mk (Kd.V_below (by (with_reducible repeat (first | apply Kd.V_alloc | apply Kd.V_drewN | apply Kd.V_drew)); exact HL111_3.out) hb); have n3_ := Aside0.mk (blk_below (g := gb101) (o := .cells #[.int .i64 a0_0, .string a0_1, .int .i64 a0_2, .slice A0_3 l0_3.length c0_3] 24 (0, 0)) (by (with_reducible repeat (first | refine blk_drewN ?_ _ | refine blk_drew ?_ | refine blk_alloc ?_ _)); exact BK101.out) hb); have n4_ := Aside0.mk (Kd.C_below (by repeat (first | (with_reducible exact HR111_3.out) | (with_reducible refine Kd.C_alloc ?_ _) | (with_reducible refine Kd.C_drewN ?_ _) | (with_reducible refine Kd.C_drew ?_) | exact HR111_3.out)) hb); have n5_ := Aside0.mk (below_step (by repeat (first | (with_reducible first | exact HB.out | apply below_alloc | apply pw_below_drewN | apply below_drew1 | refine below_set ?_ GE101.out) | exact HB.out)) hb); clear HO_4; clear HO_5; clear HL111_3; clear BK101; clear HR111_3; clear HB; have HO_4 := n0_; have HO_5 := n1_; have HL111_3 := n2_; have BK101 := n3_; have HR111_3 := n4_; have HB := n5_; clear n0_ n1_ n2_ n3_ n4_ n5_; (try clear hb); (try clear hb2); (try clear hk); (try clear hi); have p114 : 0 ≤ (x8_1 : Int) := of_decide_eq_true (by first | (with_reducible assumption) | assumption); have q114 : x8_1 < (t106.length : Int) := of_decide_eq_true (by first | (with_reducible assumption) | assumption); obtain ⟨ad114, A114_3, c114_3, e114, hx114_0, hx114_1, hx114_2, hx114_3, hl114_3, hi114_3⟩ := at_T24 (Kd.V_reads' HO_5.out).2.2 x8_1 p114 q114; obtain rfl : ad111 = ad114 := (by injection e114); obtain ⟨ce114, hce114, hMe114, hcc114⟩ := Kd.V_get HO_5.out z24 x8_1 p114 (by first | exact q114 | exact of_decide_eq_true (by first | (with_reducible assumption) | assumption) | (have e_ := (Kd.V_reads' HO_5.out).1; omega)); obtain ⟨ua114_3, uc114_3, rfl, ul114_3, ge114_3⟩ := k24_openF hMe114; have hv114_3 := hcc114 3 _ rfl; rw [add_field _ _ 3 (by omega)] at hv114_3; replace hv114_3 := Option.some.inj (hv114_3.symm.trans hx114_3); injection hv114_3 with hva_ hvn_ hvc_; rw [hva_] at ge114_3; rw [hvc_] at ul114_3; have HL114_3 := Aside0.mk (show Kd.V k24 24 _ w.heap.size _ _ ((rd_T24 t106 x8_1).f3) from Kd.V_mk ul114_3 ge114_3); clear hva_ hvn_ hvc_ ge114_3 ul114_3; clear hcc114 hce114; have HR114_3 := Aside0.mk hi114_3; have HC114_3 := Aside0.mk hl114_3; clear hi114_3 hl114_3; replace p114 := eq_true p114; replace q114 := eq_true q114; have p115 : 0 ≤ (x8_1 : Int) := of_decide_eq_true (by first | (with_reducible assumption) | assumption); have q115 : x8_1 < (t106.length : Int) := of_decide_eq_true (by first | (with_reducible assumption) | assumption); obtain ⟨ad115, A115_3, c115_3, e115, hx115_0, hx115_1, hx115_2, hx115_3, hl115_3, hi115_3⟩ := at_T24 (Kd.V_reads' HO_5.out).2.2 x8_1 p115 q115; obtain rfl : ad111 = ad115 := (by injection e115); obtain ⟨ce115, hce115, hMe115, hcc115⟩ := Kd.V_get HO_5.out z24 x8_1 p115 (by first | exact q115 | exact of_decide_eq_true (by first | (with_reducible assumption) | assumption) | (have e_ := (Kd.V_reads' HO_5.out).1; omega)); obtain ⟨ua115_3, uc115_3, rfl, ul115_3, ge115_3⟩ := k24_openF hMe115; have hv115_3 := hcc115 3 _ rfl; rw [add_field _ _ 3 (by omega)] at hv115_3; replace hv115_3 := Option.some.inj (hv115_3.symm.trans hx115_3); injection hv115_3 with hva_ hvn_ hvc_; rw [hva_] at ge115_3; rw [hvc_] at ul115_3; have HL115_3 := Aside0.mk (show Kd.V k24 24 _ w.heap.size _ _ ((rd_T24 t106 x8_1).f3) from Kd.V_mk ul115_3 ge115_3); clear hva_ hvn_ hvc_ ge115_3 ul115_3; clear hcc115 hce115; have HR115_3 := Aside0.mk hi115_3; have HC115_3 := Aside0.mk hl115_3; clear hi115_3 hl115_3; replace p115 := eq_true p115; replace q115 := eq_true q115; have ea_ := Option.some.inj (hx114_3.symm.trans hx115_3); injection ea_ with ea_ en_ ec_; subst ea_; subst ec_; clear en_; have p116 : 0 ≤ (x8_1 : Int) := of_decide_eq_true (by first | (with_reducible assumption) | assumption); have q116 : x8_1 < (t106.length : Int) := of_decide_eq_true (by first | (with_reducible assumption) | assumption); obtain ⟨ad116, A116_3, c116_3, e116, hx116_0, hx116_1, hx116_2, hx116_3, hl116_3, hi116_3⟩ := at_T24 (Kd.V_reads' HO_5.out).2.2 x8_1 p116 q116; obtain rfl : ad111 = ad116 := (by injection e116); obtain ⟨ce116, hce116, hMe116, hcc116⟩ := Kd.V_get HO_5.out z24 x8_1 p116 (by first | exact q116 | exact of_decide_eq_true (by first | (with_reducible assumption) | assumption) | (have e_ := (Kd.V_reads' HO_5.out).1; omega)); obtain ⟨ua116_3, uc116_3, rfl, ul116_3, ge116_3⟩ := k24_openF hMe116; have hv116_3 := hcc116 3 _ rfl; rw [add_field _ _ 3 (by omega)] at hv116_3; replace hv116_3 := Option.some.inj (hv116_3.symm.trans hx116_3); injection hv116_3 with hva_ hvn_ hvc_; rw [hva_] at ge116_3; rw [hvc_] at ul116_3; have HL116_3 := Aside0.mk (show Kd.V k24 24 _ w.heap.size _ _ ((rd_T24 t106 x8_1).f3) from Kd.V_mk ul116_3 ge116_3); clear hva_ hvn_ hvc_ ge116_3 ul116_3; clear hcc116 hce116; have HR116_3 := Aside0.mk hi116_3; have HC116_3 := Aside0.mk hl116_3; clear hi116_3 hl116_3; replace p116 := eq_true p116; replace q116 := eq_true q116; have ea_ := Option.some.inj (hx114_3.symm.trans hx116_3); injection ea_ with ea_ en_ ec_; subst ea_; subst ec_; clear en_) | (go_at_call 18; (with_reducible refine (ashlarref07_Find.calls k1 _ _ t106 ((rd_T24 t106 x8_1).f0) ((rd_T24 t106 x8_1).f1) ((rd_T24 t106 x8_1).f2) _ _ ((rd_T24 t106 x8_1).f3) t117 _ ?side1 ?side2 ?side3 ?side4 A18.out).mono ?_); (case side1 => repeat (first | exact (Kd.V_reads' HO_5.out).2.2 | (with_reducible refine Kd.C_alloc ?_ _) | (with_reducible refine Kd.C_drewN ?_ _) | (with_reducible refine Kd.C_drew ?_))); (case side2 => exact (Kd.V_reads' HO_5.out).2.1); (case side3 => repeat (first | exact (by repeat (first | (with_reducible exact HR116_3.out) | (with_reducible refine Kd.C_alloc ?_ _) | (with_reducible refine Kd.C_drewN ?_ _) | (with_reducible refine Kd.C_drew ?_) | exact HR116_3.out)) | (with_reducible refine Kd.C_alloc ?_ _) | (with_reducible refine Kd.C_drewN ?_ _) | (with_reducible refine Kd.C_drew ?_))); (case side4 => exact HC116_3.out); rintro e w22 ⟨rfl, hb⟩; have n0_ := Aside0.mk (Kd.N_below (by (with_reducible repeat (first | apply Kd.N_alloc | apply Kd.N_drewN | apply Kd.N_drew)); exact HO_4.out) hb); have n1_ := Aside0.mk (Kd.V_below (by (with_reducible repeat (first | apply Kd.V_alloc | apply Kd.V_drewN | apply Kd.V_drew)); exact HO_5.out) hb); have n2_ := Aside0.mk (Kd.V_below (by (with_reducible repeat (first | apply Kd.V_alloc | apply Kd.V_drewN | apply Kd.V_drew)); exact HL111_3.out) hb); have n3_ := Aside0.mk (Kd.V_below (by (with_reducible repeat (first | apply Kd.V_alloc | apply Kd.V_drewN | apply Kd.V_drew)); exact HL114_3.out) hb); have n4_ := Aside0.mk (Kd.V_below (by (with_reducible repeat (first | apply Kd.V_alloc | apply Kd.V_drewN | apply Kd.V_drew)); exact HL115_3.out) hb); have n5_ := Aside0.mk (Kd.V_below (by (with_reducible repeat (first | apply Kd.V_alloc | apply Kd.V_drewN | apply Kd.V_drew)); exact HL116_3.out) hb); have n6_ := Aside0.mk (blk_below (g := gb101) (o := .cells #[.int .i64 a0_0, .string a0_1, .int .i64 a0_2, .slice A0_3 l0_3.length c0_3] 24 (0, 0)) (by (with_reducible repeat (first | refine blk_drewN ?_ _ | refine blk_drew ?_ | refine blk_alloc ?_ _)); exact BK101.out) hb); have n7_ := Aside0.mk (Kd.C_below (by repeat (first | (with_reducible exact HR111_3.out) | (with_reducible refine Kd.C_alloc ?_ _) | (with_reducible refine Kd.C_drewN ?_ _) | (with_reducible refine Kd.C_drew ?_) | exact HR111_3.out)) hb); have n8_ := Aside0.mk (Kd.C_below (by repeat (first | (with_reducible exact HR114_3.out) | (with_reducible refine Kd.C_alloc ?_ _) | (with_reducible refine Kd.C_drewN ?_ _) | (with_reducible refine Kd.C_drew ?_) | exact HR114_3.out)) hb); have n9_ := Aside0.mk (Kd.C_below (by repeat (first | (with_reducible exact HR115_3.out) | (with_reducible refine Kd.C_alloc ?_ _) | (with_reducible refine Kd.C_drewN ?_ _) | (with_reducible refine Kd.C_drew ?_) | exact HR115_3.out)) hb); have n10_ := Aside0.mk (Kd.C_below (by repeat (first | (with_reducible exact HR116_3.out) | (with_reducible refine Kd.C_alloc ?_ _) | (with_reducible refine Kd.C_drewN ?_ _) | (with_reducible refine Kd.C_drew ?_) | exact HR116_3.out)) hb); have n11_ := Aside0.mk (below_step (by repeat (first | (with_reducible first | exact HB.out | apply below_alloc | apply pw_below_drewN | apply below_drew1 | refine below_set ?_ GE101.out) | exact HB.out)) hb); clear HO_4; clear HO_5; clear HL111_3; clear HL114_3; clear HL115_3; clear HL116_3; clear BK101; clear HR111_3; clear HR114_3; clear HR115_3; clear HR116_3; clear HB; have HO_4 := n0_; have HO_5 := n1_; have HL111_3 := n2_; have HL114_3 := n3_; have HL115_3 := n4_; have HL116_3 := n5_; have BK101 := n6_; have HR111_3 := n7_; have HR114_3 := n8_; have HR115_3 := n9_; have HR116_3 := n10_; have HB := n11_; clear n0_ n1_ n2_ n3_ n4_ n5_ n6_ n7_ n8_ n9_ n10_ n11_; (try clear hb); (try clear hb2); (try clear hk); (try clear hi)))
                      repeat (go_quiet (first | (go_at_call 17; (with_reducible refine (ashlarref03_Sort.calls k1 ((rd_T24 t106 x8_1).f0) ((rd_T24 t106 x8_1).f1) ((rd_T24 t106 x8_1).f2) _ _ ((rd_T24 t106 x8_1).f3) t112 t113 _ ?side1 ?side2 A11.out).mono ?_); (case side1 => repeat (first | exact (by repeat (first | (with_reducible exact HR111_3.out) | (with_reducible refine Kd.C_alloc ?_ _) | (with_reducible refine Kd.C_drewN ?_ _) | (with_reducible refine Kd.C_drew ?_) | exact HR111_3.out)) | (with_reducible refine Kd.C_alloc ?_ _) | (with_reducible refine Kd.C_drewN ?_ _) | (with_reducible refine Kd.C_drew ?_))); (case side2 => exact HC111_3.out); rintro e w21 ⟨rfl, hb⟩; have n0_ := Aside0.mk (Kd.N_below (by (with_reducible repeat (first | apply Kd.N_alloc | apply Kd.N_drewN | apply Kd.N_drew)); exact HO_4.out) hb); have n1_ := Aside0.mk (Kd.V_below (by (with_reducible repeat (first | apply Kd.V_alloc | apply Kd.V_drewN | apply Kd.V_drew)); exact HO_5.out) hb); have n2_ := Aside0.mk (Kd.V_below (by (with_reducible repeat (first | apply Kd.V_alloc | apply Kd.V_drewN | apply Kd.V_drew)); exact HL111_3.out) hb); have n3_ := Aside0.mk (blk_below (g := gb101) (o := .cells #[.int .i64 a0_0, .string a0_1, .int .i64 a0_2, .slice A0_3 l0_3.length c0_3] 24 (0, 0)) (by (with_reducible repeat (first | refine blk_drewN ?_ _ | refine blk_drew ?_ | refine blk_alloc ?_ _)); exact BK101.out) hb); have n4_ := Aside0.mk (Kd.C_below (by repeat (first | (with_reducible exact HR111_3.out) | (with_reducible refine Kd.C_alloc ?_ _) | (with_reducible refine Kd.C_drewN ?_ _) | (with_reducible refine Kd.C_drew ?_) | exact HR111_3.out)) hb); have n5_ := Aside0.mk (below_step (by repeat (first | (with_reducible first | exact HB.out | apply below_alloc | apply pw_below_drewN | apply below_drew1 | refine below_set ?_ GE101.out) | exact HB.out)) hb); clear HO_4; clear HO_5; clear HL111_3; clear BK101; clear HR111_3; clear HB; have HO_4 := n0_; have HO_5 := n1_; have HL111_3 := n2_; have BK101 := n3_; have HR111_3 := n4_; have HB := n5_; clear n0_ n1_ n2_ n3_ n4_ n5_; (try clear hb); (try clear hb2); (try clear hk); (try clear hi); have p114 : 0 ≤ (x8_1 : Int) := of_decide_eq_true (by first | (with_reducible assumption) | assumption); have q114 : x8_1 < (t106.length : Int) := of_decide_eq_true (by first | (with_reducible assumption) | assumption); obtain ⟨ad114, A114_3, c114_3, e114, hx114_0, hx114_1, hx114_2, hx114_3, hl114_3, hi114_3⟩ := at_T24 (Kd.V_reads' HO_5.out).2.2 x8_1 p114 q114; obtain rfl : ad111 = ad114 := (by injection e114); obtain ⟨ce114, hce114, hMe114, hcc114⟩ := Kd.V_get HO_5.out z24 x8_1 p114 (by first | exact q114 | exact of_decide_eq_true (by first | (with_reducible assumption) | assumption) | (have e_ := (Kd.V_reads' HO_5.out).1; omega)); obtain ⟨ua114_3, uc114_3, rfl, ul114_3, ge114_3⟩ := k24_openF hMe114; have hv114_3 := hcc114 3 _ rfl; rw [add_field _ _ 3 (by omega)] at hv114_3; replace hv114_3 := Option.some.inj (hv114_3.symm.trans hx114_3); injection hv114_3 with hva_ hvn_ hvc_; rw [hva_] at ge114_3; rw [hvc_] at ul114_3; have HL114_3 := Aside0.mk (show Kd.V k24 24 _ w.heap.size _ _ ((rd_T24 t106 x8_1).f3) from Kd.V_mk ul114_3 ge114_3); clear hva_ hvn_ hvc_ ge114_3 ul114_3; clear hcc114 hce114; have HR114_3 := Aside0.mk hi114_3; have HC114_3 := Aside0.mk hl114_3; clear hi114_3 hl114_3; replace p114 := eq_true p114; replace q114 := eq_true q114; have p115 : 0 ≤ (x8_1 : Int) := of_decide_eq_true (by first | (with_reducible assumption) | assumption); have q115 : x8_1 < (t106.length : Int) := of_decide_eq_true (by first | (with_reducible assumption) | assumption); obtain ⟨ad115, A115_3, c115_3, e115, hx115_0, hx115_1, hx115_2, hx115_3, hl115_3, hi115_3⟩ := at_T24 (Kd.V_reads' HO_5.out).2.2 x8_1 p115 q115; obtain rfl : ad111 = ad115 := (by injection e115); obtain ⟨ce115, hce115, hMe115, hcc115⟩ := Kd.V_get HO_5.out z24 x8_1 p115 (by first | exact q115 | exact of_decide_eq_true (by first | (with_reducible assumption) | assumption) | (have e_ := (Kd.V_reads' HO_5.out).1; omega)); obtain ⟨ua115_3, uc115_3, rfl, ul115_3, ge115_3⟩ := k24_openF hMe115; have hv115_3 := hcc115 3 _ rfl; rw [add_field _ _ 3 (by omega)] at hv115_3; replace hv115_3 := Option.some.inj (hv115_3.symm.trans hx115_3); injection hv115_3 with hva_ hvn_ hvc_; rw [hva_] at ge115_3; rw [hvc_] at ul115_3; have HL115_3 := Aside0.mk (show Kd.V k24 24 _ w.heap.size _ _ ((rd_T24 t106 x8_1).f3) from Kd.V_mk ul115_3 ge115_3); clear hva_ hvn_ hvc_ ge115_3 ul115_3; clear hcc115 hce115; have HR115_3 := Aside0.mk hi115_3; have HC115_3 := Aside0.mk hl115_3; clear hi115_3 hl115_3; replace p115 := eq_true p115; replace q115 := eq_true q115; have ea_ := Option.some.inj (hx114_3.symm.trans hx115_3); injection ea_ with ea_ en_ ec_; subst ea_; subst ec_; clear en_; have p116 : 0 ≤ (x8_1 : Int) := of_decide_eq_true (by first | (with_reducible assumption) | assumption); have q116 : x8_1 < (t106.length : Int) := of_decide_eq_true (by first | (with_reducible assumption) | assumption); obtain ⟨ad116, A116_3, c116_3, e116, hx116_0, hx116_1, hx116_2, hx116_3, hl116_3, hi116_3⟩ := at_T24 (Kd.V_reads' HO_5.out).2.2 x8_1 p116 q116; obtain rfl : ad111 = ad116 := (by injection e116); obtain ⟨ce116, hce116, hMe116, hcc116⟩ := Kd.V_get HO_5.out z24 x8_1 p116 (by first | exact q116 | exact of_decide_eq_true (by first | (with_reducible assumption) | assumption) | (have e_ := (Kd.V_reads' HO_5.out).1; omega)); obtain ⟨ua116_3, uc116_3, rfl, ul116_3, ge116_3⟩ := k24_openF hMe116; have hv116_3 := hcc116 3 _ rfl; rw [add_field _ _ 3 (by omega)] at hv116_3; replace hv116_3 := Option.some.inj (hv116_3.symm.trans hx116_3); injection hv116_3 with hva_ hvn_ hvc_; rw [hva_] at ge116_3; rw [hvc_] at ul116_3; have HL116_3 := Aside0.mk (show Kd.V k24 24 _ w.heap.size _ _ ((rd_T24 t106 x8_1).f3) from Kd.V_mk ul116_3 ge116_3); clear hva_ hvn_ hvc_ ge116_3 ul116_3; clear hcc116 hce116; have HR116_3 := Aside0.mk hi116_3; have HC116_3 := Aside0.mk hl116_3; clear hi116_3 hl116_3; replace p116 := eq_true p116; replace q116 := eq_true q116; have ea_ := Option.some.inj (hx114_3.symm.trans hx116_3); injection ea_ with ea_ en_ ec_; subst ea_; subst ec_; clear en_) | (go_at_call 18; (with_reducible refine (ashlarref07_Find.calls k1 _ _ t106 ((rd_T24 t106 x8_1).f0) ((rd_T24 t106 x8_1).f1) ((rd_T24 t106 x8_1).f2) _ _ ((rd_T24 t106 x8_1).f3) t117 _ ?side1 ?side2 ?side3 ?side4 A18.out).mono ?_); (case side1 => repeat (first | exact (Kd.V_reads' HO_5.out).2.2 | (with_reducible refine Kd.C_alloc ?_ _) | (with_reducible refine Kd.C_drewN ?_ _) | (with_reducible refine Kd.C_drew ?_))); (case side2 => exact (Kd.V_reads' HO_5.out).2.1); (case side3 => repeat (first | exact (by repeat (first | (with_reducible exact HR116_3.out) | (with_reducible refine Kd.C_alloc ?_ _) | (with_reducible refine Kd.C_drewN ?_ _) | (with_reducible refine Kd.C_drew ?_) | exact HR116_3.out)) | (with_reducible refine Kd.C_alloc ?_ _) | (with_reducible refine Kd.C_drewN ?_ _) | (with_reducible refine Kd.C_drew ?_))); (case side4 => exact HC116_3.out); rintro e w22 ⟨rfl, hb⟩; have n0_ := Aside0.mk (Kd.N_below (by (with_reducible repeat (first | apply Kd.N_alloc | apply Kd.N_drewN | apply Kd.N_drew)); exact HO_4.out) hb); have n1_ := Aside0.mk (Kd.V_below (by (with_reducible repeat (first | apply Kd.V_alloc | apply Kd.V_drewN | apply Kd.V_drew)); exact HO_5.out) hb); have n2_ := Aside0.mk (Kd.V_below (by (with_reducible repeat (first | apply Kd.V_alloc | apply Kd.V_drewN | apply Kd.V_drew)); exact HL111_3.out) hb); have n3_ := Aside0.mk (Kd.V_below (by (with_reducible repeat (first | apply Kd.V_alloc | apply Kd.V_drewN | apply Kd.V_drew)); exact HL114_3.out) hb); have n4_ := Aside0.mk (Kd.V_below (by (with_reducible repeat (first | apply Kd.V_alloc | apply Kd.V_drewN | apply Kd.V_drew)); exact HL115_3.out) hb); have n5_ := Aside0.mk (Kd.V_below (by (with_reducible repeat (first | apply Kd.V_alloc | apply Kd.V_drewN | apply Kd.V_drew)); exact HL116_3.out) hb); have n6_ := Aside0.mk (blk_below (g := gb101) (o := .cells #[.int .i64 a0_0, .string a0_1, .int .i64 a0_2, .slice A0_3 l0_3.length c0_3] 24 (0, 0)) (by (with_reducible repeat (first | refine blk_drewN ?_ _ | refine blk_drew ?_ | refine blk_alloc ?_ _)); exact BK101.out) hb); have n7_ := Aside0.mk (Kd.C_below (by repeat (first | (with_reducible exact HR111_3.out) | (with_reducible refine Kd.C_alloc ?_ _) | (with_reducible refine Kd.C_drewN ?_ _) | (with_reducible refine Kd.C_drew ?_) | exact HR111_3.out)) hb); have n8_ := Aside0.mk (Kd.C_below (by repeat (first | (with_reducible exact HR114_3.out) | (with_reducible refine Kd.C_alloc ?_ _) | (with_reducible refine Kd.C_drewN ?_ _) | (with_reducible refine Kd.C_drew ?_) | exact HR114_3.out)) hb); have n9_ := Aside0.mk (Kd.C_below (by repeat (first | (with_reducible exact HR115_3.out) | (with_reducible refine Kd.C_alloc ?_ _) | (with_reducible refine Kd.C_drewN ?_ _) | (with_reducible refine Kd.C_drew ?_) | exact HR115_3.out)) hb); have n10_ := Aside0.mk (Kd.C_below (by repeat (first | (with_reducible exact HR116_3.out) | (with_reducible refine Kd.C_alloc ?_ _) | (with_reducible refine Kd.C_drewN ?_ _) | (with_reducible refine Kd.C_drew ?_) | exact HR116_3.out)) hb); have n11_ := Aside0.mk (below_step (by repeat (first | (with_reducible first | exact HB.out | apply below_alloc | apply pw_below_drewN | apply below_drew1 | refine below_set ?_ GE101.out) | exact HB.out)) hb); clear HO_4; clear HO_5; clear HL111_3; clear HL114_3; clear HL115_3; clear HL116_3; clear BK101; clear HR111_3; clear HR114_3; clear HR115_3; clear HR116_3; clear HB; have HO_4 := n0_; have HO_5 := n1_; have HL111_3 := n2_; have HL114_3 := n3_; have HL115_3 := n4_; have HL116_3 := n5_; have BK101 := n6_; have HR111_3 := n7_; have HR114_3 := n8_; have HR115_3 := n9_; have HR116_3 := n10_; have HB := n11_; clear n0_ n1_ n2_ n3_ n4_ n5_ n6_ n7_ n8_ n9_ n10_ n11_; (try clear hb); (try clear hb2); (try clear hk); (try clear hi))); try go_wp2_with (first | (go_at_call 17; (with_reducible refine (ashlarref03_Sort.calls k1 ((rd_T24 t106 x8_1).f0) ((rd_T24 t106 x8_1).f1) ((rd_T24 t106 x8_1).f2) _ _ ((rd_T24 t106 x8_1).f3) t112 t113 _ ?side1 ?side2 A11.out).mono ?_); (case side1 => repeat (first | exact (by repeat (first | (with_reducible exact HR111_3.out) | (with_reducible refine Kd.C_alloc ?_ _) | (with_reducible refine Kd.C_drewN ?_ _) | (with_reducible refine Kd.C_drew ?_) | exact HR111_3.out)) | (with_reducible refine Kd.C_alloc ?_ _) | (with_reducible refine Kd.C_drewN ?_ _) | (with_reducible refine Kd.C_drew ?_))); (case side2 => exact HC111_3.out); rintro e w21 ⟨rfl, hb⟩; have n0_ := Aside0.mk (Kd.N_below (by (with_reducible repeat (first | apply Kd.N_alloc | apply Kd.N_drewN | apply Kd.N_drew)); exact HO_4.out) hb); have n1_ := Aside0.mk (Kd.V_below (by (with_reducible repeat (first | apply Kd.V_alloc | apply Kd.V_drewN | apply Kd.V_drew)); exact HO_5.out) hb); have n2_ := Aside0.mk (Kd.V_below (by (with_reducible repeat (first | apply Kd.V_alloc | apply Kd.V_drewN | apply Kd.V_drew)); exact HL111_3.out) hb); have n3_ := Aside0.mk (blk_below (g := gb101) (o := .cells #[.int .i64 a0_0, .string a0_1, .int .i64 a0_2, .slice A0_3 l0_3.length c0_3] 24 (0, 0)) (by (with_reducible repeat (first | refine blk_drewN ?_ _ | refine blk_drew ?_ | refine blk_alloc ?_ _)); exact BK101.out) hb); have n4_ := Aside0.mk (Kd.C_below (by repeat (first | (with_reducible exact HR111_3.out) | (with_reducible refine Kd.C_alloc ?_ _) | (with_reducible refine Kd.C_drewN ?_ _) | (with_reducible refine Kd.C_drew ?_) | exact HR111_3.out)) hb); have n5_ := Aside0.mk (below_step (by repeat (first | (with_reducible first | exact HB.out | apply below_alloc | apply pw_below_drewN | apply below_drew1 | refine below_set ?_ GE101.out) | exact HB.out)) hb); clear HO_4; clear HO_5; clear HL111_3; clear BK101; clear HR111_3; clear HB; have HO_4 := n0_; have HO_5 := n1_; have HL111_3 := n2_; have BK101 := n3_; have HR111_3 := n4_; have HB := n5_; clear n0_ n1_ n2_ n3_ n4_ n5_; (try clear hb); (try clear hb2); (try clear hk); (try clear hi); have p114 : 0 ≤ (x8_1 : Int) := of_decide_eq_true (by first | (with_reducible assumption) | assumption); have q114 : x8_1 < (t106.length : Int) := of_decide_eq_true (by first | (with_reducible assumption) | assumption); obtain ⟨ad114, A114_3, c114_3, e114, hx114_0, hx114_1, hx114_2, hx114_3, hl114_3, hi114_3⟩ := at_T24 (Kd.V_reads' HO_5.out).2.2 x8_1 p114 q114; obtain rfl : ad111 = ad114 := (by injection e114); obtain ⟨ce114, hce114, hMe114, hcc114⟩ := Kd.V_get HO_5.out z24 x8_1 p114 (by first | exact q114 | exact of_decide_eq_true (by first | (with_reducible assumption) | assumption) | (have e_ := (Kd.V_reads' HO_5.out).1; omega)); obtain ⟨ua114_3, uc114_3, rfl, ul114_3, ge114_3⟩ := k24_openF hMe114; have hv114_3 := hcc114 3 _ rfl; rw [add_field _ _ 3 (by omega)] at hv114_3; replace hv114_3 := Option.some.inj (hv114_3.symm.trans hx114_3); injection hv114_3 with hva_ hvn_ hvc_; rw [hva_] at ge114_3; rw [hvc_] at ul114_3; have HL114_3 := Aside0.mk (show Kd.V k24 24 _ w.heap.size _ _ ((rd_T24 t106 x8_1).f3) from Kd.V_mk ul114_3 ge114_3); clear hva_ hvn_ hvc_ ge114_3 ul114_3; clear hcc114 hce114; have HR114_3 := Aside0.mk hi114_3; have HC114_3 := Aside0.mk hl114_3; clear hi114_3 hl114_3; replace p114 := eq_true p114; replace q114 := eq_true q114; have p115 : 0 ≤ (x8_1 : Int) := of_decide_eq_true (by first | (with_reducible assumption) | assumption); have q115 : x8_1 < (t106.length : Int) := of_decide_eq_true (by first | (with_reducible assumption) | assumption); obtain ⟨ad115, A115_3, c115_3, e115, hx115_0, hx115_1, hx115_2, hx115_3, hl115_3, hi115_3⟩ := at_T24 (Kd.V_reads' HO_5.out).2.2 x8_1 p115 q115; obtain rfl : ad111 = ad115 := (by injection e115); obtain ⟨ce115, hce115, hMe115, hcc115⟩ := Kd.V_get HO_5.out z24 x8_1 p115 (by first | exact q115 | exact of_decide_eq_true (by first | (with_reducible assumption) | assumption) | (have e_ := (Kd.V_reads' HO_5.out).1; omega)); obtain ⟨ua115_3, uc115_3, rfl, ul115_3, ge115_3⟩ := k24_openF hMe115; have hv115_3 := hcc115 3 _ rfl; rw [add_field _ _ 3 (by omega)] at hv115_3; replace hv115_3 := Option.some.inj (hv115_3.symm.trans hx115_3); injection hv115_3 with hva_ hvn_ hvc_; rw [hva_] at ge115_3; rw [hvc_] at ul115_3; have HL115_3 := Aside0.mk (show Kd.V k24 24 _ w.heap.size _ _ ((rd_T24 t106 x8_1).f3) from Kd.V_mk ul115_3 ge115_3); clear hva_ hvn_ hvc_ ge115_3 ul115_3; clear hcc115 hce115; have HR115_3 := Aside0.mk hi115_3; have HC115_3 := Aside0.mk hl115_3; clear hi115_3 hl115_3; replace p115 := eq_true p115; replace q115 := eq_true q115; have ea_ := Option.some.inj (hx114_3.symm.trans hx115_3); injection ea_ with ea_ en_ ec_; subst ea_; subst ec_; clear en_; have p116 : 0 ≤ (x8_1 : Int) := of_decide_eq_true (by first | (with_reducible assumption) | assumption); have q116 : x8_1 < (t106.length : Int) := of_decide_eq_true (by first | (with_reducible assumption) | assumption); obtain ⟨ad116, A116_3, c116_3, e116, hx116_0, hx116_1, hx116_2, hx116_3, hl116_3, hi116_3⟩ := at_T24 (Kd.V_reads' HO_5.out).2.2 x8_1 p116 q116; obtain rfl : ad111 = ad116 := (by injection e116); obtain ⟨ce116, hce116, hMe116, hcc116⟩ := Kd.V_get HO_5.out z24 x8_1 p116 (by first | exact q116 | exact of_decide_eq_true (by first | (with_reducible assumption) | assumption) | (have e_ := (Kd.V_reads' HO_5.out).1; omega)); obtain ⟨ua116_3, uc116_3, rfl, ul116_3, ge116_3⟩ := k24_openF hMe116; have hv116_3 := hcc116 3 _ rfl; rw [add_field _ _ 3 (by omega)] at hv116_3; replace hv116_3 := Option.some.inj (hv116_3.symm.trans hx116_3); injection hv116_3 with hva_ hvn_ hvc_; rw [hva_] at ge116_3; rw [hvc_] at ul116_3; have HL116_3 := Aside0.mk (show Kd.V k24 24 _ w.heap.size _ _ ((rd_T24 t106 x8_1).f3) from Kd.V_mk ul116_3 ge116_3); clear hva_ hvn_ hvc_ ge116_3 ul116_3; clear hcc116 hce116; have HR116_3 := Aside0.mk hi116_3; have HC116_3 := Aside0.mk hl116_3; clear hi116_3 hl116_3; replace p116 := eq_true p116; replace q116 := eq_true q116; have ea_ := Option.some.inj (hx114_3.symm.trans hx116_3); injection ea_ with ea_ en_ ec_; subst ea_; subst ec_; clear en_) | (go_at_call 18; (with_reducible refine (ashlarref07_Find.calls k1 _ _ t106 ((rd_T24 t106 x8_1).f0) ((rd_T24 t106 x8_1).f1) ((rd_T24 t106 x8_1).f2) _ _ ((rd_T24 t106 x8_1).f3) t117 _ ?side1 ?side2 ?side3 ?side4 A18.out).mono ?_); (case side1 => repeat (first | exact (Kd.V_reads' HO_5.out).2.2 | (with_reducible refine Kd.C_alloc ?_ _) | (with_reducible refine Kd.C_drewN ?_ _) | (with_reducible refine Kd.C_drew ?_))); (case side2 => exact (Kd.V_reads' HO_5.out).2.1); (case side3 => repeat (first | exact (by repeat (first | (with_reducible exact HR116_3.out) | (with_reducible refine Kd.C_alloc ?_ _) | (with_reducible refine Kd.C_drewN ?_ _) | (with_reducible refine Kd.C_drew ?_) | exact HR116_3.out)) | (with_reducible refine Kd.C_alloc ?_ _) | (with_reducible refine Kd.C_drewN ?_ _) | (with_reducible refine Kd.C_drew ?_))); (case side4 => exact HC116_3.out); rintro e w22 ⟨rfl, hb⟩; have n0_ := Aside0.mk (Kd.N_below (by (with_reducible repeat (first | apply Kd.N_alloc | apply Kd.N_drewN | apply Kd.N_drew)); exact HO_4.out) hb); have n1_ := Aside0.mk (Kd.V_below (by (with_reducible repeat (first | apply Kd.V_alloc | apply Kd.V_drewN | apply Kd.V_drew)); exact HO_5.out) hb); have n2_ := Aside0.mk (Kd.V_below (by (with_reducible repeat (first | apply Kd.V_alloc | apply Kd.V_drewN | apply Kd.V_drew)); exact HL111_3.out) hb); have n3_ := Aside0.mk (Kd.V_below (by (with_reducible repeat (first | apply Kd.V_alloc | apply Kd.V_drewN | apply Kd.V_drew)); exact HL114_3.out) hb); have n4_ := Aside0.mk (Kd.V_below (by (with_reducible repeat (first | apply Kd.V_alloc | apply Kd.V_drewN | apply Kd.V_drew)); exact HL115_3.out) hb); have n5_ := Aside0.mk (Kd.V_below (by (with_reducible repeat (first | apply Kd.V_alloc | apply Kd.V_drewN | apply Kd.V_drew)); exact HL116_3.out) hb); have n6_ := Aside0.mk (blk_below (g := gb101) (o := .cells #[.int .i64 a0_0, .string a0_1, .int .i64 a0_2, .slice A0_3 l0_3.length c0_3] 24 (0, 0)) (by (with_reducible repeat (first | refine blk_drewN ?_ _ | refine blk_drew ?_ | refine blk_alloc ?_ _)); exact BK101.out) hb); have n7_ := Aside0.mk (Kd.C_below (by repeat (first | (with_reducible exact HR111_3.out) | (with_reducible refine Kd.C_alloc ?_ _) | (with_reducible refine Kd.C_drewN ?_ _) | (with_reducible refine Kd.C_drew ?_) | exact HR111_3.out)) hb); have n8_ := Aside0.mk (Kd.C_below (by repeat (first | (with_reducible exact HR114_3.out) | (with_reducible refine Kd.C_alloc ?_ _) | (with_reducible refine Kd.C_drewN ?_ _) | (with_reducible refine Kd.C_drew ?_) | exact HR114_3.out)) hb); have n9_ := Aside0.mk (Kd.C_below (by repeat (first | (with_reducible exact HR115_3.out) | (with_reducible refine Kd.C_alloc ?_ _) | (with_reducible refine Kd.C_drewN ?_ _) | (with_reducible refine Kd.C_drew ?_) | exact HR115_3.out)) hb); have n10_ := Aside0.mk (Kd.C_below (by repeat (first | (with_reducible exact HR116_3.out) | (with_reducible refine Kd.C_alloc ?_ _) | (with_reducible refine Kd.C_drewN ?_ _) | (with_reducible refine Kd.C_drew ?_) | exact HR116_3.out)) hb); have n11_ := Aside0.mk (below_step (by repeat (first | (with_reducible first | exact HB.out | apply below_alloc | apply pw_below_drewN | apply below_drew1 | refine below_set ?_ GE101.out) | exact HB.out)) hb); clear HO_4; clear HO_5; clear HL111_3; clear HL114_3; clear HL115_3; clear HL116_3; clear BK101; clear HR111_3; clear HR114_3; clear HR115_3; clear HR116_3; clear HB; have HO_4 := n0_; have HO_5 := n1_; have HL111_3 := n2_; have HL114_3 := n3_; have HL115_3 := n4_; have HL116_3 := n5_; have BK101 := n6_; have HR111_3 := n7_; have HR114_3 := n8_; have HR115_3 := n9_; have HR116_3 := n10_; have HB := n11_; clear n0_ n1_ n2_ n3_ n4_ n5_ n6_ n7_ n8_ n9_ n10_ n11_; (try clear hb); (try clear hb2); (try clear hk); (try clear hi))))
                      go_roundg k1
                      case measure => have := HK1.out; omega
                      case rel => exact ⟨(wrap64 (x8_1 + 1)), (by first | rfl | (simp; done) | (simp [*]; done)), H', ⟨by have := HK1.out; omega⟩, ⟨by (with_reducible repeat (first | apply Kd.N_alloc | apply Kd.N_drewN | apply Kd.N_drew)); exact HO_4.out⟩, ⟨by (with_reducible repeat (first | apply Kd.V_alloc | apply Kd.V_drewN | apply Kd.V_drew)); exact HO_5.out⟩, ⟨by (with_reducible repeat (first | refine blk_drewN ?_ _ | refine blk_drew ?_ | refine blk_alloc ?_ _)); exact BK101.out⟩, ⟨by repeat (first | (with_reducible first | exact HB.out | apply below_alloc | apply pw_below_drewN | apply below_drew1 | refine below_set ?_ GE101.out) | exact HB.out)⟩⟩
                    · rw [if_neg c19] at H
                      have c19b0 : (t117 == x8_1) = false := beq_eq_false_iff_ne.mpr c19
                      have c19b1 : (t117 != x8_1) = true := bne_iff_ne.mpr c19
                      exact absurd (Option.some.inj H) (by rw [hr]; decide)
                · rw [if_neg c14] at H
                  have c14b0 : decide (16 ≤ ((rd_T24 t106 x8_1).f0)) = false := decide_eq_false c14
                  clear c14
                  replace H := Option.bind_eq_some_iff.mp H
                  obtain ⟨t119, A260, H⟩ := H
                  replace H : (if t119 = x8_1 then (ashlarlaw07_CnfAtoms.l0 k1 t102 t103 t106 t109 (wrap64 (x8_1 + 1))) else (some false)) = some r := H
                  have A26 := Aside0.mk A260
                  clear A260
                  by_cases c27 : t119 = x8_1
                  · rw [if_pos c27] at H
                    have c27b0 : (t119 == x8_1) = true := beq_iff_eq.mpr c27
                    have c27b1 : (t119 != x8_1) = false := bne_eq_false_iff_eq.mpr c27
                    clear c27
                    have H' := Aside0.mk H
                    clear H
                    obtain ⟨Ao28, co28, eo28⟩ := Kd.V_slice HO_5.out
                    subst eo28
                    have p111 : 0 ≤ (x8_1 : Int) := of_decide_eq_true (by first | (with_reducible assumption) | assumption)
                    have q111 : x8_1 < (t106.length : Int) := of_decide_eq_true (by first | (with_reducible assumption) | assumption)
                    obtain ⟨ad111, A111_3, c111_3, e111, hx111_0, hx111_1, hx111_2, hx111_3, hl111_3, hi111_3⟩ := at_T24 (Kd.V_reads' HO_5.out).2.2 x8_1 p111 q111
                    cases e111
                    obtain ⟨ce111, hce111, hMe111, hcc111⟩ := Kd.V_get HO_5.out z24 x8_1 p111 (by first | exact q111 | exact of_decide_eq_true (by first | (with_reducible assumption) | assumption) | (have e_ := (Kd.V_reads' HO_5.out).1; omega))
                    obtain ⟨ua111_3, uc111_3, rfl, ul111_3, ge111_3⟩ := k24_openF hMe111
                    have hv111_3 := hcc111 3 _ rfl
                    rw [add_field _ _ 3 (by omega)] at hv111_3
                    replace hv111_3 := Option.some.inj (hv111_3.symm.trans hx111_3)
                    injection hv111_3 with hva_ hvn_ hvc_
                    rw [hva_] at ge111_3
                    rw [hvc_] at ul111_3
                    have HL111_3 := Aside0.mk (show Kd.V k24 24 _ w.heap.size _ _ ((rd_T24 t106 x8_1).f3) from Kd.V_mk ul111_3 ge111_3)
                    clear hva_ hvn_ hvc_ ge111_3 ul111_3
                    clear hcc111 hce111
                    have HR111_3 := Aside0.mk hi111_3
                    have HC111_3 := Aside0.mk hl111_3
                    clear hi111_3 hl111_3
                    replace p111 := eq_true p111
                    replace q111 := eq_true q111
                    go_wp2_with (first | (go_at_call 17; (with_reducible refine (ashlarref03_Sort.calls k1 ((rd_T24 t106 x8_1).f0) ((rd_T24 t106 x8_1).f1) ((rd_T24 t106 x8_1).f2) _ _ ((rd_T24 t106 x8_1).f3) t112 t113 _ ?side1 ?side2 A11.out).mono ?_); (case side1 => repeat (first | exact (by repeat (first | (with_reducible exact HR111_3.out) | (with_reducible refine Kd.C_alloc ?_ _) | (with_reducible refine Kd.C_drewN ?_ _) | (with_reducible refine Kd.C_drew ?_) | exact HR111_3.out)) | (with_reducible refine Kd.C_alloc ?_ _) | (with_reducible refine Kd.C_drewN ?_ _) | (with_reducible refine Kd.C_drew ?_))); (case side2 => exact HC111_3.out); rintro e w29 ⟨rfl, hb⟩; have n0_ := Aside0.mk (Kd.N_below (by (with_reducible repeat (first | apply Kd.N_alloc | apply Kd.N_drewN | apply Kd.N_drew)); exact HO_4.out) hb); have n1_ := Aside0.mk (Kd.V_below (by (with_reducible repeat (first | apply Kd.V_alloc | apply Kd.V_drewN | apply Kd.V_drew)); exact HO_5.out) hb); have n2_ := Aside0.mk (Kd.V_below (by (with_reducible repeat (first | apply Kd.V_alloc | apply Kd.V_drewN | apply Kd.V_drew)); exact HL111_3.out) hb); have n3_ := Aside0.mk (blk_below (g := gb101) (o := .cells #[.int .i64 a0_0, .string a0_1, .int .i64 a0_2, .slice A0_3 l0_3.length c0_3] 24 (0, 0)) (by (with_reducible repeat (first | refine blk_drewN ?_ _ | refine blk_drew ?_ | refine blk_alloc ?_ _)); exact BK101.out) hb); have n4_ := Aside0.mk (Kd.C_below (by repeat (first | (with_reducible exact HR111_3.out) | (with_reducible refine Kd.C_alloc ?_ _) | (with_reducible refine Kd.C_drewN ?_ _) | (with_reducible refine Kd.C_drew ?_) | exact HR111_3.out)) hb); have n5_ := Aside0.mk (below_step (by repeat (first | (with_reducible first | exact HB.out | apply below_alloc | apply pw_below_drewN | apply below_drew1 | refine below_set ?_ GE101.out) | exact HB.out)) hb); clear HO_4; clear HO_5; clear HL111_3; clear BK101; clear HR111_3; clear HB; have HO_4 := n0_; have HO_5 := n1_; have HL111_3 := n2_; have BK101 := n3_; have HR111_3 := n4_; have HB := n5_; clear n0_ n1_ n2_ n3_ n4_ n5_; (try clear hb); (try clear hb2); (try clear hk); (try clear hi); have p114 : 0 ≤ (x8_1 : Int) := of_decide_eq_true (by first | (with_reducible assumption) | assumption); have q114 : x8_1 < (t106.length : Int) := of_decide_eq_true (by first | (with_reducible assumption) | assumption); obtain ⟨ad114, A114_3, c114_3, e114, hx114_0, hx114_1, hx114_2, hx114_3, hl114_3, hi114_3⟩ := at_T24 (Kd.V_reads' HO_5.out).2.2 x8_1 p114 q114; obtain rfl : ad111 = ad114 := (by injection e114); obtain ⟨ce114, hce114, hMe114, hcc114⟩ := Kd.V_get HO_5.out z24 x8_1 p114 (by first | exact q114 | exact of_decide_eq_true (by first | (with_reducible assumption) | assumption) | (have e_ := (Kd.V_reads' HO_5.out).1; omega)); obtain ⟨ua114_3, uc114_3, rfl, ul114_3, ge114_3⟩ := k24_openF hMe114; have hv114_3 := hcc114 3 _ rfl; rw [add_field _ _ 3 (by omega)] at hv114_3; replace hv114_3 := Option.some.inj (hv114_3.symm.trans hx114_3); injection hv114_3 with hva_ hvn_ hvc_; rw [hva_] at ge114_3; rw [hvc_] at ul114_3; have HL114_3 := Aside0.mk (show Kd.V k24 24 _ w.heap.size _ _ ((rd_T24 t106 x8_1).f3) from Kd.V_mk ul114_3 ge114_3); clear hva_ hvn_ hvc_ ge114_3 ul114_3; clear hcc114 hce114; have HR114_3 := Aside0.mk hi114_3; have HC114_3 := Aside0.mk hl114_3; clear hi114_3 hl114_3; replace p114 := eq_true p114; replace q114 := eq_true q114; have p118 : 0 ≤ (x8_1 : Int) := of_decide_eq_true (by first | (with_reducible assumption) | assumption); have q118 : x8_1 < (t106.length : Int) := of_decide_eq_true (by first | (with_reducible assumption) | assumption); obtain ⟨ad118, A118_3, c118_3, e118, hx118_0, hx118_1, hx118_2, hx118_3, hl118_3, hi118_3⟩ := at_T24 (Kd.V_reads' HO_5.out).2.2 x8_1 p118 q118; obtain rfl : ad111 = ad118 := (by injection e118); obtain ⟨ce118, hce118, hMe118, hcc118⟩ := Kd.V_get HO_5.out z24 x8_1 p118 (by first | exact q118 | exact of_decide_eq_true (by first | (with_reducible assumption) | assumption) | (have e_ := (Kd.V_reads' HO_5.out).1; omega)); obtain ⟨ua118_3, uc118_3, rfl, ul118_3, ge118_3⟩ := k24_openF hMe118; have hv118_3 := hcc118 3 _ rfl; rw [add_field _ _ 3 (by omega)] at hv118_3; replace hv118_3 := Option.some.inj (hv118_3.symm.trans hx118_3); injection hv118_3 with hva_ hvn_ hvc_; rw [hva_] at ge118_3; rw [hvc_] at ul118_3; have HL118_3 := Aside0.mk (show Kd.V k24 24 _ w.heap.size _ _ ((rd_T24 t106 x8_1).f3) from Kd.V_mk ul118_3 ge118_3); clear hva_ hvn_ hvc_ ge118_3 ul118_3; clear hcc118 hce118; have HR118_3 := Aside0.mk hi118_3; have HC118_3 := Aside0.mk hl118_3; clear hi118_3 hl118_3; replace p118 := eq_true p118; replace q118 := eq_true q118; have ea_ := Option.some.inj (hx114_3.symm.trans hx118_3); injection ea_ with ea_ en_ ec_; subst ea_; subst ec_; clear en_) | (go_at_call 18; (with_reducible refine (ashlarref07_Find.calls k1 _ _ t106 ((rd_T24 t106 x8_1).f0) ((rd_T24 t106 x8_1).f1) ((rd_T24 t106 x8_1).f2) _ _ ((rd_T24 t106 x8_1).f3) t119 _ ?side1 ?side2 ?side3 ?side4 A26.out).mono ?_); (case side1 => repeat (first | exact (Kd.V_reads' HO_5.out).2.2 | (with_reducible refine Kd.C_alloc ?_ _) | (with_reducible refine Kd.C_drewN ?_ _) | (with_reducible refine Kd.C_drew ?_))); (case side2 => exact (Kd.V_reads' HO_5.out).2.1); (case side3 => repeat (first | exact (by repeat (first | (with_reducible exact HR118_3.out) | (with_reducible refine Kd.C_alloc ?_ _) | (with_reducible refine Kd.C_drewN ?_ _) | (with_reducible refine Kd.C_drew ?_) | exact HR118_3.out)) | (with_reducible refine Kd.C_alloc ?_ _) | (with_reducible refine Kd.C_drewN ?_ _) | (with_reducible refine Kd.C_drew ?_))); (case side4 => exact HC118_3.out); rintro e w30 ⟨rfl, hb⟩; have n0_ := Aside0.mk (Kd.N_below (by (with_reducible repeat (first | apply Kd.N_alloc | apply Kd.N_drewN | apply Kd.N_drew)); exact HO_4.out) hb); have n1_ := Aside0.mk (Kd.V_below (by (with_reducible repeat (first | apply Kd.V_alloc | apply Kd.V_drewN | apply Kd.V_drew)); exact HO_5.out) hb); have n2_ := Aside0.mk (Kd.V_below (by (with_reducible repeat (first | apply Kd.V_alloc | apply Kd.V_drewN | apply Kd.V_drew)); exact HL111_3.out) hb); have n3_ := Aside0.mk (Kd.V_below (by (with_reducible repeat (first | apply Kd.V_alloc | apply Kd.V_drewN | apply Kd.V_drew)); exact HL114_3.out) hb); have n4_ := Aside0.mk (Kd.V_below (by (with_reducible repeat (first | apply Kd.V_alloc | apply Kd.V_drewN | apply Kd.V_drew)); exact HL118_3.out) hb); have n5_ := Aside0.mk (blk_below (g := gb101) (o := .cells #[.int .i64 a0_0, .string a0_1, .int .i64 a0_2, .slice A0_3 l0_3.length c0_3] 24 (0, 0)) (by (with_reducible repeat (first | refine blk_drewN ?_ _ | refine blk_drew ?_ | refine blk_alloc ?_ _)); exact BK101.out) hb); have n6_ := Aside0.mk (Kd.C_below (by repeat (first | (with_reducible exact HR111_3.out) | (with_reducible refine Kd.C_alloc ?_ _) | (with_reducible refine Kd.C_drewN ?_ _) | (with_reducible refine Kd.C_drew ?_) | exact HR111_3.out)) hb); have n7_ := Aside0.mk (Kd.C_below (by repeat (first | (with_reducible exact HR114_3.out) | (with_reducible refine Kd.C_alloc ?_ _) | (with_reducible refine Kd.C_drewN ?_ _) | (with_reducible refine Kd.C_drew ?_) | exact HR114_3.out)) hb); have n8_ := Aside0.mk (Kd.C_below (by repeat (first | (with_reducible exact HR118_3.out) | (with_reducible refine Kd.C_alloc ?_ _) | (with_reducible refine Kd.C_drewN ?_ _) | (with_reducible refine Kd.C_drew ?_) | exact HR118_3.out)) hb); have n9_ := Aside0.mk (below_step (by repeat (first | (with_reducible first | exact HB.out | apply below_alloc | apply pw_below_drewN | apply below_drew1 | refine below_set ?_ GE101.out) | exact HB.out)) hb); clear HO_4; clear HO_5; clear HL111_3; clear HL114_3; clear HL118_3; clear BK101; clear HR111_3; clear HR114_3; clear HR118_3; clear HB; have HO_4 := n0_; have HO_5 := n1_; have HL111_3 := n2_; have HL114_3 := n3_; have HL118_3 := n4_; have BK101 := n5_; have HR111_3 := n6_; have HR114_3 := n7_; have HR118_3 := n8_; have HB := n9_; clear n0_ n1_ n2_ n3_ n4_ n5_ n6_ n7_ n8_ n9_; (try clear hb); (try clear hb2); (try clear hk); (try clear hi)))
                    repeat (go_quiet (first | (go_at_call 17; (with_reducible refine (ashlarref03_Sort.calls k1 ((rd_T24 t106 x8_1).f0) ((rd_T24 t106 x8_1).f1) ((rd_T24 t106 x8_1).f2) _ _ ((rd_T24 t106 x8_1).f3) t112 t113 _ ?side1 ?side2 A11.out).mono ?_); (case side1 => repeat (first | exact (by repeat (first | (with_reducible exact HR111_3.out) | (with_reducible refine Kd.C_alloc ?_ _) | (with_reducible refine Kd.C_drewN ?_ _) | (with_reducible refine Kd.C_drew ?_) | exact HR111_3.out)) | (with_reducible refine Kd.C_alloc ?_ _) | (with_reducible refine Kd.C_drewN ?_ _) | (with_reducible refine Kd.C_drew ?_))); (case side2 => exact HC111_3.out); rintro e w29 ⟨rfl, hb⟩; have n0_ := Aside0.mk (Kd.N_below (by (with_reducible repeat (first | apply Kd.N_alloc | apply Kd.N_drewN | apply Kd.N_drew)); exact HO_4.out) hb); have n1_ := Aside0.mk (Kd.V_below (by (with_reducible repeat (first | apply Kd.V_alloc | apply Kd.V_drewN | apply Kd.V_drew)); exact HO_5.out) hb); have n2_ := Aside0.mk (Kd.V_below (by (with_reducible repeat (first | apply Kd.V_alloc | apply Kd.V_drewN | apply Kd.V_drew)); exact HL111_3.out) hb); have n3_ := Aside0.mk (blk_below (g := gb101) (o := .cells #[.int .i64 a0_0, .string a0_1, .int .i64 a0_2, .slice A0_3 l0_3.length c0_3] 24 (0, 0)) (by (with_reducible repeat (first | refine blk_drewN ?_ _ | refine blk_drew ?_ | refine blk_alloc ?_ _)); exact BK101.out) hb); have n4_ := Aside0.mk (Kd.C_below (by repeat (first | (with_reducible exact HR111_3.out) | (with_reducible refine Kd.C_alloc ?_ _) | (with_reducible refine Kd.C_drewN ?_ _) | (with_reducible refine Kd.C_drew ?_) | exact HR111_3.out)) hb); have n5_ := Aside0.mk (below_step (by repeat (first | (with_reducible first | exact HB.out | apply below_alloc | apply pw_below_drewN | apply below_drew1 | refine below_set ?_ GE101.out) | exact HB.out)) hb); clear HO_4; clear HO_5; clear HL111_3; clear BK101; clear HR111_3; clear HB; have HO_4 := n0_; have HO_5 := n1_; have HL111_3 := n2_; have BK101 := n3_; have HR111_3 := n4_; have HB := n5_; clear n0_ n1_ n2_ n3_ n4_ n5_; (try clear hb); (try clear hb2); (try clear hk); (try clear hi); have p114 : 0 ≤ (x8_1 : Int) := of_decide_eq_true (by first | (with_reducible assumption) | assumption); have q114 : x8_1 < (t106.length : Int) := of_decide_eq_true (by first | (with_reducible assumption) | assumption); obtain ⟨ad114, A114_3, c114_3, e114, hx114_0, hx114_1, hx114_2, hx114_3, hl114_3, hi114_3⟩ := at_T24 (Kd.V_reads' HO_5.out).2.2 x8_1 p114 q114; obtain rfl : ad111 = ad114 := (by injection e114); obtain ⟨ce114, hce114, hMe114, hcc114⟩ := Kd.V_get HO_5.out z24 x8_1 p114 (by first | exact q114 | exact of_decide_eq_true (by first | (with_reducible assumption) | assumption) | (have e_ := (Kd.V_reads' HO_5.out).1; omega)); obtain ⟨ua114_3, uc114_3, rfl, ul114_3, ge114_3⟩ := k24_openF hMe114; have hv114_3 := hcc114 3 _ rfl; rw [add_field _ _ 3 (by omega)] at hv114_3; replace hv114_3 := Option.some.inj (hv114_3.symm.trans hx114_3); injection hv114_3 with hva_ hvn_ hvc_; rw [hva_] at ge114_3; rw [hvc_] at ul114_3; have HL114_3 := Aside0.mk (show Kd.V k24 24 _ w.heap.size _ _ ((rd_T24 t106 x8_1).f3) from Kd.V_mk ul114_3 ge114_3); clear hva_ hvn_ hvc_ ge114_3 ul114_3; clear hcc114 hce114; have HR114_3 := Aside0.mk hi114_3; have HC114_3 := Aside0.mk hl114_3; clear hi114_3 hl114_3; replace p114 := eq_true p114; replace q114 := eq_true q114; have p118 : 0 ≤ (x8_1 : Int) := of_decide_eq_true (by first | (with_reducible assumption) | assumption); have q118 : x8_1 < (t106.length : Int) := of_decide_eq_true (by first | (with_reducible assumption) | assumption); obtain ⟨ad118, A118_3, c118_3, e118, hx118_0, hx118_1, hx118_2, hx118_3, hl118_3, hi118_3⟩ := at_T24 (Kd.V_reads' HO_5.out).2.2 x8_1 p118 q118; obtain rfl : ad111 = ad118 := (by injection e118); obtain ⟨ce118, hce118, hMe118, hcc118⟩ := Kd.V_get HO_5.out z24 x8_1 p118 (by first | exact q118 | exact of_decide_eq_true (by first | (with_reducible assumption) | assumption) | (have e_ := (Kd.V_reads' HO_5.out).1; omega)); obtain ⟨ua118_3, uc118_3, rfl, ul118_3, ge118_3⟩ := k24_openF hMe118; have hv118_3 := hcc118 3 _ rfl; rw [add_field _ _ 3 (by omega)] at hv118_3; replace hv118_3 := Option.some.inj (hv118_3.symm.trans hx118_3); injection hv118_3 with hva_ hvn_ hvc_; rw [hva_] at ge118_3; rw [hvc_] at ul118_3; have HL118_3 := Aside0.mk (show Kd.V k24 24 _ w.heap.size _ _ ((rd_T24 t106 x8_1).f3) from Kd.V_mk ul118_3 ge118_3); clear hva_ hvn_ hvc_ ge118_3 ul118_3; clear hcc118 hce118; have HR118_3 := Aside0.mk hi118_3; have HC118_3 := Aside0.mk hl118_3; clear hi118_3 hl118_3; replace p118 := eq_true p118; replace q118 := eq_true q118; have ea_ := Option.some.inj (hx114_3.symm.trans hx118_3); injection ea_ with ea_ en_ ec_; subst ea_; subst ec_; clear en_) | (go_at_call 18; (with_reducible refine (ashlarref07_Find.calls k1 _ _ t106 ((rd_T24 t106 x8_1).f0) ((rd_T24 t106 x8_1).f1) ((rd_T24 t106 x8_1).f2) _ _ ((rd_T24 t106 x8_1).f3) t119 _ ?side1 ?side2 ?side3 ?side4 A26.out).mono ?_); (case side1 => repeat (first | exact (Kd.V_reads' HO_5.out).2.2 | (with_reducible refine Kd.C_alloc ?_ _) | (with_reducible refine Kd.C_drewN ?_ _) | (with_reducible refine Kd.C_drew ?_))); (case side2 => exact (Kd.V_reads' HO_5.out).2.1); (case side3 => repeat (first | exact (by repeat (first | (with_reducible exact HR118_3.out) | (with_reducible refine Kd.C_alloc ?_ _) | (with_reducible refine Kd.C_drewN ?_ _) | (with_reducible refine Kd.C_drew ?_) | exact HR118_3.out)) | (with_reducible refine Kd.C_alloc ?_ _) | (with_reducible refine Kd.C_drewN ?_ _) | (with_reducible refine Kd.C_drew ?_))); (case side4 => exact HC118_3.out); rintro e w30 ⟨rfl, hb⟩; have n0_ := Aside0.mk (Kd.N_below (by (with_reducible repeat (first | apply Kd.N_alloc | apply Kd.N_drewN | apply Kd.N_drew)); exact HO_4.out) hb); have n1_ := Aside0.mk (Kd.V_below (by (with_reducible repeat (first | apply Kd.V_alloc | apply Kd.V_drewN | apply Kd.V_drew)); exact HO_5.out) hb); have n2_ := Aside0.mk (Kd.V_below (by (with_reducible repeat (first | apply Kd.V_alloc | apply Kd.V_drewN | apply Kd.V_drew)); exact HL111_3.out) hb); have n3_ := Aside0.mk (Kd.V_below (by (with_reducible repeat (first | apply Kd.V_alloc | apply Kd.V_drewN | apply Kd.V_drew)); exact HL114_3.out) hb); have n4_ := Aside0.mk (Kd.V_below (by (with_reducible repeat (first | apply Kd.V_alloc | apply Kd.V_drewN | apply Kd.V_drew)); exact HL118_3.out) hb); have n5_ := Aside0.mk (blk_below (g := gb101) (o := .cells #[.int .i64 a0_0, .string a0_1, .int .i64 a0_2, .slice A0_3 l0_3.length c0_3] 24 (0, 0)) (by (with_reducible repeat (first | refine blk_drewN ?_ _ | refine blk_drew ?_ | refine blk_alloc ?_ _)); exact BK101.out) hb); have n6_ := Aside0.mk (Kd.C_below (by repeat (first | (with_reducible exact HR111_3.out) | (with_reducible refine Kd.C_alloc ?_ _) | (with_reducible refine Kd.C_drewN ?_ _) | (with_reducible refine Kd.C_drew ?_) | exact HR111_3.out)) hb); have n7_ := Aside0.mk (Kd.C_below (by repeat (first | (with_reducible exact HR114_3.out) | (with_reducible refine Kd.C_alloc ?_ _) | (with_reducible refine Kd.C_drewN ?_ _) | (with_reducible refine Kd.C_drew ?_) | exact HR114_3.out)) hb); have n8_ := Aside0.mk (Kd.C_below (by repeat (first | (with_reducible exact HR118_3.out) | (with_reducible refine Kd.C_alloc ?_ _) | (with_reducible refine Kd.C_drewN ?_ _) | (with_reducible refine Kd.C_drew ?_) | exact HR118_3.out)) hb); have n9_ := Aside0.mk (below_step (by repeat (first | (with_reducible first | exact HB.out | apply below_alloc | apply pw_below_drewN | apply below_drew1 | refine below_set ?_ GE101.out) | exact HB.out)) hb); clear HO_4; clear HO_5; clear HL111_3; clear HL114_3; clear HL118_3; clear BK101; clear HR111_3; clear HR114_3; clear HR118_3; clear HB; have HO_4 := n0_; have HO_5 := n1_; have HL111_3 := n2_; have HL114_3 := n3_; have HL118_3 := n4_; have BK101 := n5_; have HR111_3 := n6_; have HR114_3 := n7_; have HR118_3 := n8_; have HB := n9_; clear n0_ n1_ n2_ n3_ n4_ n5_ n6_ n7_ n8_ n9_; (try clear hb); (try clear hb2); (try clear hk); (try clear hi))); try go_wp2_with (first | (go_at_call 17; (with_reducible refine (ashlarref03_Sort.calls k1 ((rd_T24 t106 x8_1).f0) ((rd_T24 t106 x8_1).f1) ((rd_T24 t106 x8_1).f2) _ _ ((rd_T24 t106 x8_1).f3) t112 t113 _ ?side1 ?side2 A11.out).mono ?_); (case side1 => repeat (first | exact (by repeat (first | (with_reducible exact HR111_3.out) | (with_reducible refine Kd.C_alloc ?_ _) | (with_reducible refine Kd.C_drewN ?_ _) | (with_reducible refine Kd.C_drew ?_) | exact HR111_3.out)) | (with_reducible refine Kd.C_alloc ?_ _) | (with_reducible refine Kd.C_drewN ?_ _) | (with_reducible refine Kd.C_drew ?_))); (case side2 => exact HC111_3.out); rintro e w29 ⟨rfl, hb⟩; have n0_ := Aside0.mk (Kd.N_below (by (with_reducible repeat (first | apply Kd.N_alloc | apply Kd.N_drewN | apply Kd.N_drew)); exact HO_4.out) hb); have n1_ := Aside0.mk (Kd.V_below (by (with_reducible repeat (first | apply Kd.V_alloc | apply Kd.V_drewN | apply Kd.V_drew)); exact HO_5.out) hb); have n2_ := Aside0.mk (Kd.V_below (by (with_reducible repeat (first | apply Kd.V_alloc | apply Kd.V_drewN | apply Kd.V_drew)); exact HL111_3.out) hb); have n3_ := Aside0.mk (blk_below (g := gb101) (o := .cells #[.int .i64 a0_0, .string a0_1, .int .i64 a0_2, .slice A0_3 l0_3.length c0_3] 24 (0, 0)) (by (with_reducible repeat (first | refine blk_drewN ?_ _ | refine blk_drew ?_ | refine blk_alloc ?_ _)); exact BK101.out) hb); have n4_ := Aside0.mk (Kd.C_below (by repeat (first | (with_reducible exact HR111_3.out) | (with_reducible refine Kd.C_alloc ?_ _) | (with_reducible refine Kd.C_drewN ?_ _) | (with_reducible refine Kd.C_drew ?_) | exact HR111_3.out)) hb); have n5_ := Aside0.mk (below_step (by repeat (first | (with_reducible first | exact HB.out | apply below_alloc | apply pw_below_drewN | apply below_drew1 | refine below_set ?_ GE101.out) | exact HB.out)) hb); clear HO_4; clear HO_5; clear HL111_3; clear BK101; clear HR111_3; clear HB; have HO_4 := n0_; have HO_5 := n1_; have HL111_3 := n2_; have BK101 := n3_; have HR111_3 := n4_; have HB := n5_; clear n0_ n1_ n2_ n3_ n4_ n5_; (try clear hb); (try clear hb2); (try clear hk); (try clear hi); have p114 : 0 ≤ (x8_1 : Int) := of_decide_eq_true (by first | (with_reducible assumption) | assumption); have q114 : x8_1 < (t106.length : Int) := of_decide_eq_true (by first | (with_reducible assumption) | assumption); obtain ⟨ad114, A114_3, c114_3, e114, hx114_0, hx114_1, hx114_2, hx114_3, hl114_3, hi114_3⟩ := at_T24 (Kd.V_reads' HO_5.out).2.2 x8_1 p114 q114; obtain rfl : ad111 = ad114 := (by injection e114); obtain ⟨ce114, hce114, hMe114, hcc114⟩ := Kd.V_get HO_5.out z24 x8_1 p114 (by first | exact q114 | exact of_decide_eq_true (by first | (with_reducible assumption) | assumption) | (have e_ := (Kd.V_reads' HO_5.out).1; omega)); obtain ⟨ua114_3, uc114_3, rfl, ul114_3, ge114_3⟩ := k24_openF hMe114; have hv114_3 := hcc114 3 _ rfl; rw [add_field _ _ 3 (by omega)] at hv114_3; replace hv114_3 := Option.some.inj (hv114_3.symm.trans hx114_3); injection hv114_3 with hva_ hvn_ hvc_; rw [hva_] at ge114_3; rw [hvc_] at ul114_3; have HL114_3 := Aside0.mk (show Kd.V k24 24 _ w.heap.size _ _ ((rd_T24 t106 x8_1).f3) from Kd.V_mk ul114_3 ge114_3); clear hva_ hvn_ hvc_ ge114_3 ul114_3; clear hcc114 hce114; have HR114_3 := Aside0.mk hi114_3; have HC114_3 := Aside0.mk hl114_3; clear hi114_3 hl114_3; replace p114 := eq_true p114; replace q114 := eq_true q114; have p118 : 0 ≤ (x8_1 : Int) := of_decide_eq_true (by first | (with_reducible assumption) | assumption); have q118 : x8_1 < (t106.length : Int) := of_decide_eq_true (by first | (with_reducible assumption) | assumption); obtain ⟨ad118, A118_3, c118_3, e118, hx118_0, hx118_1, hx118_2, hx118_3, hl118_3, hi118_3⟩ := at_T24 (Kd.V_reads' HO_5.out).2.2 x8_1 p118 q118; obtain rfl : ad111 = ad118 := (by injection e118); obtain ⟨ce118, hce118, hMe118, hcc118⟩ := Kd.V_get HO_5.out z24 x8_1 p118 (by first | exact q118 | exact of_decide_eq_true (by first | (with_reducible assumption) | assumption) | (have e_ := (Kd.V_reads' HO_5.out).1; omega)); obtain ⟨ua118_3, uc118_3, rfl, ul118_3, ge118_3⟩ := k24_openF hMe118; have hv118_3 := hcc118 3 _ rfl; rw [add_field _ _ 3 (by omega)] at hv118_3; replace hv118_3 := Option.some.inj (hv118_3.symm.trans hx118_3); injection hv118_3 with hva_ hvn_ hvc_; rw [hva_] at ge118_3; rw [hvc_] at ul118_3; have HL118_3 := Aside0.mk (show Kd.V k24 24 _ w.heap.size _ _ ((rd_T24 t106 x8_1).f3) from Kd.V_mk ul118_3 ge118_3); clear hva_ hvn_ hvc_ ge118_3 ul118_3; clear hcc118 hce118; have HR118_3 := Aside0.mk hi118_3; have HC118_3 := Aside0.mk hl118_3; clear hi118_3 hl118_3; replace p118 := eq_true p118; replace q118 := eq_true q118; have ea_ := Option.some.inj (hx114_3.symm.trans hx118_3); injection ea_ with ea_ en_ ec_; subst ea_; subst ec_; clear en_) | (go_at_call 18; (with_reducible refine (ashlarref07_Find.calls k1 _ _ t106 ((rd_T24 t106 x8_1).f0) ((rd_T24 t106 x8_1).f1) ((rd_T24 t106 x8_1).f2) _ _ ((rd_T24 t106 x8_1).f3) t119 _ ?side1 ?side2 ?side3 ?side4 A26.out).mono ?_); (case side1 => repeat (first | exact (Kd.V_reads' HO_5.out).2.2 | (with_reducible refine Kd.C_alloc ?_ _) | (with_reducible refine Kd.C_drewN ?_ _) | (with_reducible refine Kd.C_drew ?_))); (case side2 => exact (Kd.V_reads' HO_5.out).2.1); (case side3 => repeat (first | exact (by repeat (first | (with_reducible exact HR118_3.out) | (with_reducible refine Kd.C_alloc ?_ _) | (with_reducible refine Kd.C_drewN ?_ _) | (with_reducible refine Kd.C_drew ?_) | exact HR118_3.out)) | (with_reducible refine Kd.C_alloc ?_ _) | (with_reducible refine Kd.C_drewN ?_ _) | (with_reducible refine Kd.C_drew ?_))); (case side4 => exact HC118_3.out); rintro e w30 ⟨rfl, hb⟩; have n0_ := Aside0.mk (Kd.N_below (by (with_reducible repeat (first | apply Kd.N_alloc | apply Kd.N_drewN | apply Kd.N_drew)); exact HO_4.out) hb); have n1_ := Aside0.mk (Kd.V_below (by (with_reducible repeat (first | apply Kd.V_alloc | apply Kd.V_drewN | apply Kd.V_drew)); exact HO_5.out) hb); have n2_ := Aside0.mk (Kd.V_below (by (with_reducible repeat (first | apply Kd.V_alloc | apply Kd.V_drewN | apply Kd.V_drew)); exact HL111_3.out) hb); have n3_ := Aside0.mk (Kd.V_below (by (with_reducible repeat (first | apply Kd.V_alloc | apply Kd.V_drewN | apply Kd.V_drew)); exact HL114_3.out) hb); have n4_ := Aside0.mk (Kd.V_below (by (with_reducible repeat (first | apply Kd.V_alloc | apply Kd.V_drewN | apply Kd.V_drew)); exact HL118_3.out) hb); have n5_ := Aside0.mk (blk_below (g := gb101) (o := .cells #[.int .i64 a0_0, .string a0_1, .int .i64 a0_2, .slice A0_3 l0_3.length c0_3] 24 (0, 0)) (by (with_reducible repeat (first | refine blk_drewN ?_ _ | refine blk_drew ?_ | refine blk_alloc ?_ _)); exact BK101.out) hb); have n6_ := Aside0.mk (Kd.C_below (by repeat (first | (with_reducible exact HR111_3.out) | (with_reducible refine Kd.C_alloc ?_ _) | (with_reducible refine Kd.C_drewN ?_ _) | (with_reducible refine Kd.C_drew ?_) | exact HR111_3.out)) hb); have n7_ := Aside0.mk (Kd.C_below (by repeat (first | (with_reducible exact HR114_3.out) | (with_reducible refine Kd.C_alloc ?_ _) | (with_reducible refine Kd.C_drewN ?_ _) | (with_reducible refine Kd.C_drew ?_) | exact HR114_3.out)) hb); have n8_ := Aside0.mk (Kd.C_below (by repeat (first | (with_reducible exact HR118_3.out) | (with_reducible refine Kd.C_alloc ?_ _) | (with_reducible refine Kd.C_drewN ?_ _) | (with_reducible refine Kd.C_drew ?_) | exact HR118_3.out)) hb); have n9_ := Aside0.mk (below_step (by repeat (first | (with_reducible first | exact HB.out | apply below_alloc | apply pw_below_drewN | apply below_drew1 | refine below_set ?_ GE101.out) | exact HB.out)) hb); clear HO_4; clear HO_5; clear HL111_3; clear HL114_3; clear HL118_3; clear BK101; clear HR111_3; clear HR114_3; clear HR118_3; clear HB; have HO_4 := n0_; have HO_5 := n1_; have HL111_3 := n2_; have HL114_3 := n3_; have HL118_3 := n4_; have BK101 := n5_; have HR111_3 := n6_; have HR114_3 := n7_; have HR118_3 := n8_; have HB := n9_; clear n0_ n1_ n2_ n3_ n4_ n5_ n6_ n7_ n8_ n9_; (try clear hb); (try clear hb2); (try clear hk); (try clear hi))))
                    go_roundg k1
                    case measure => have := HK1.out; omega
                    case rel => exact ⟨(wrap64 (x8_1 + 1)), (by first | rfl | (simp; done) | (simp [*]; done)), H', ⟨by have := HK1.out; omega⟩, ⟨by (with_reducible repeat (first | apply Kd.N_alloc | apply Kd.N_drewN | apply Kd.N_drew)); exact HO_4.out⟩, ⟨by (with_reducible repeat (first | apply Kd.V_alloc | apply Kd.V_drewN | apply Kd.V_drew)); exact HO_5.out⟩, ⟨by (with_reducible repeat (first | refine blk_drewN ?_ _ | refine blk_drew ?_ | refine blk_alloc ?_ _)); exact BK101.out⟩, ⟨by repeat (first | (with_reducible first | exact HB.out | apply below_alloc | apply pw_below_drewN | apply below_drew1 | refine below_set ?_ GE101.out) | exact HB.out)⟩⟩
                  · rw [if_neg c27] at H
                    have c27b0 : (t119 == x8_1) = false := beq_eq_false_iff_ne.mpr c27
                    have c27b1 : (t119 != x8_1) = true := bne_iff_ne.mpr c27
                    exact absurd (Option.some.inj H) (by rw [hr]; decide)
              · rw [if_neg c13] at H
                have c13b0 : (t112 == 4) = false := beq_eq_false_iff_ne.mpr c13
                have c13b1 : (t112 != 4) = true := bne_iff_ne.mpr c13
                exact absurd (Option.some.inj H) (by rw [hr]; decide)
            · rw [if_neg c12] at H
              have c12b0 : (t113 == 0) = false := beq_eq_false_iff_ne.mpr c12
              have c12b1 : (t113 != 0) = true := bne_iff_ne.mpr c12
              exact absurd (Option.some.inj H) (by rw [hr]; decide)
          · rw [if_neg c10] at H
            exact absurd H (by simp)
        · rw [if_neg c9] at H
          have c9b0 : decide (x8_1 < (t106.length : Int)) = false := decide_eq_false c9
          clear c9
          obtain ⟨ji38, hji38⟩ : ∃ j_ : Int, (wrap64 (t109 + 1)) = j_ := ⟨_, rfl⟩
          replace H : (if 0 ≤ (ji38) then (if (ji38 : Int).toNat ≤ 281474976710656 then (ashlarlaw07_CnfAtoms.l1 k1 t102 t103 t109 (List.replicate (ji38 : Int).toNat false) 0) else (none)) else (none)) = some r := by first | (rw [hji38] at H; exact H) | (simp only [hji38] at H ⊢; exact H)
          have hji38w : (IntKind.i64.wrap (t109 + 1)) = ji38 := (i64_w _).trans hji38
          by_cases c39 : 0 ≤ (ji38)
          · rw [if_pos c39] at H
            have c39b0 := eq_true c39
            have c39b1 : decide (0 ≤ (ji38)) = true := decide_eq_true c39
            clear c39
            by_cases c40 : (ji38 : Int).toNat ≤ 281474976710656
            · rw [if_pos c40] at H
              have c40b0 := eq_true c40
              have c40b1 : decide ((ji38 : Int).toNat ≤ 281474976710656) = true := decide_eq_true c40
              clear c40
              obtain ⟨y120, hy120⟩ : ∃ y_ : List Bool, y_ = (List.replicate (ji38 : Int).toNat false) := ⟨_, rfl⟩
              replace H : (ashlarlaw07_CnfAtoms.l1 k1 t102 t103 t109 y120 0) = some r := by first | (rw [hy120]; with_reducible exact H) | (have H2_ := (Option.bind_some _ _).symm.trans H; rw [hy120]; with_reducible exact H2_) | (have H2_ := (Option.bind_some _ _).symm.trans H; with_reducible exact H2_) | with_reducible exact H | (rw [hy120]; exact H) | exact H
              have Ny120 := Aside0.mk hy120
              clear hy120
              have H' := Aside0.mk H
              clear H
              obtain ⟨Ao41, co41, eo41⟩ := Kd.V_slice HO_5.out
              subst eo41
              go_wp2_with (first | ((with_reducible refine gate_dst (N := 89) rfl ?_); (try (refine gate_guard (by rfl) ?_; dsimp only)); refine Kd.R_make Kd.bool _ 4 rfl (N := 89) rfl 35 _ _ rfl ji38 rfl rfl Tryd.underlying35 (.bool false) 1 info4 rfl (by decide) (by omega) false (ok := fun _ => True) (okp := fun _ => True) rfl (fun _ hk => hk) trivial (of_decide_eq_true (by first | (with_reducible assumption) | assumption)) (Nat.le_trans (Nat.mul_le_mul_right _ (of_decide_eq_true (by first | (with_reducible assumption) | assumption) : ji38.toNat ≤ 281474976710656)) (by omega)) (Below.refl _ _) (Nat.le_refl _) ?_; intro v121 w42 ho43 hb hg_ hnew_; clear hg_ hnew_; (first | rw [← Ny120.out] at ho43 | (simp only [Int.reduceToNat] at ho43; rw [← Ny120.out] at ho43)); have n0_ := Aside0.mk (Kd.N_elder' (by (with_reducible repeat (first | apply Kd.N_alloc | apply Kd.N_drewN | apply Kd.N_drew)); exact HO_4.out) (Kd.R_base ho43) hb); have n1_ := Aside0.mk (Kd.V_elder' (by (with_reducible repeat (first | apply Kd.V_alloc | apply Kd.V_drewN | apply Kd.V_drew)); exact HO_5.out) (Kd.R_base ho43) hb); have n2_ := Aside0.mk (Kd.R_lower ho43 (below_size (by repeat (first | (with_reducible first | exact HB.out | apply below_alloc | apply pw_below_drewN | apply below_drew1 | refine below_set ?_ GE101.out) | exact HB.out)))); have n3_ := Aside0.mk (blk_below (g := gb101) (o := .cells #[.int .i64 a0_0, .string a0_1, .int .i64 a0_2, .slice A0_3 l0_3.length c0_3] 24 (0, 0)) (by (with_reducible repeat (first | refine blk_drewN ?_ _ | refine blk_drew ?_ | refine blk_alloc ?_ _)); exact BK101.out) hb); have n4_ := Aside0.mk (below_step (by repeat (first | (with_reducible first | exact HB.out | apply below_alloc | apply pw_below_drewN | apply below_drew1 | refine below_set ?_ GE101.out) | exact HB.out)) hb); clear HO_4; clear HO_5; clear BK101; clear HB; have HO_4 := n0_; have HO_5 := n1_; have HO122 := n2_; have BK101 := n3_; have HB := n4_; clear n0_ n1_ n2_ n3_ n4_; clear hb ho43))
              repeat (go_quiet (first | ((with_reducible refine gate_dst (N := 89) rfl ?_); (try (refine gate_guard (by rfl) ?_; dsimp only)); refine Kd.R_make Kd.bool _ 4 rfl (N := 89) rfl 35 _ _ rfl ji38 rfl rfl Tryd.underlying35 (.bool false) 1 info4 rfl (by decide) (by omega) false (ok := fun _ => True) (okp := fun _ => True) rfl (fun _ hk => hk) trivial (of_decide_eq_true (by first | (with_reducible assumption) | assumption)) (Nat.le_trans (Nat.mul_le_mul_right _ (of_decide_eq_true (by first | (with_reducible assumption) | assumption) : ji38.toNat ≤ 281474976710656)) (by omega)) (Below.refl _ _) (Nat.le_refl _) ?_; intro v121 w42 ho43 hb hg_ hnew_; clear hg_ hnew_; (first | rw [← Ny120.out] at ho43 | (simp only [Int.reduceToNat] at ho43; rw [← Ny120.out] at ho43)); have n0_ := Aside0.mk (Kd.N_elder' (by (with_reducible repeat (first | apply Kd.N_alloc | apply Kd.N_drewN | apply Kd.N_drew)); exact HO_4.out) (Kd.R_base ho43) hb); have n1_ := Aside0.mk (Kd.V_elder' (by (with_reducible repeat (first | apply Kd.V_alloc | apply Kd.V_drewN | apply Kd.V_drew)); exact HO_5.out) (Kd.R_base ho43) hb); have n2_ := Aside0.mk (Kd.R_lower ho43 (below_size (by repeat (first | (with_reducible first | exact HB.out | apply below_alloc | apply pw_below_drewN | apply below_drew1 | refine below_set ?_ GE101.out) | exact HB.out)))); have n3_ := Aside0.mk (blk_below (g := gb101) (o := .cells #[.int .i64 a0_0, .string a0_1, .int .i64 a0_2, .slice A0_3 l0_3.length c0_3] 24 (0, 0)) (by (with_reducible repeat (first | refine blk_drewN ?_ _ | refine blk_drew ?_ | refine blk_alloc ?_ _)); exact BK101.out) hb); have n4_ := Aside0.mk (below_step (by repeat (first | (with_reducible first | exact HB.out | apply below_alloc | apply pw_below_drewN | apply below_drew1 | refine below_set ?_ GE101.out) | exact HB.out)) hb); clear HO_4; clear HO_5; clear BK101; clear HB; have HO_4 := n0_; have HO_5 := n1_; have HO122 := n2_; have BK101 := n3_; have HB := n4_; clear n0_ n1_ n2_ n3_ n4_; clear hb ho43)); try go_wp2_with (first | ((with_reducible refine gate_dst (N := 89) rfl ?_); (try (refine gate_guard (by rfl) ?_; dsimp only)); refine Kd.R_make Kd.bool _ 4 rfl (N := 89) rfl 35 _ _ rfl ji38 rfl rfl Tryd.underlying35 (.bool false) 1 info4 rfl (by decide) (by omega) false (ok := fun _ => True) (okp := fun _ => True) rfl (fun _ hk => hk) trivial (of_decide_eq_true (by first | (with_reducible assumption) | assumption)) (Nat.le_trans (Nat.mul_le_mul_right _ (of_decide_eq_true (by first | (with_reducible assumption) | assumption) : ji38.toNat ≤ 281474976710656)) (by omega)) (Below.refl _ _) (Nat.le_refl _) ?_; intro v121 w42 ho43 hb hg_ hnew_; clear hg_ hnew_; (first | rw [← Ny120.out] at ho43 | (simp only [Int.reduceToNat] at ho43; rw [← Ny120.out] at ho43)); have n0_ := Aside0.mk (Kd.N_elder' (by (with_reducible repeat (first | apply Kd.N_alloc | apply Kd.N_drewN | apply Kd.N_drew)); exact HO_4.out) (Kd.R_base ho43) hb); have n1_ := Aside0.mk (Kd.V_elder' (by (with_reducible repeat (first | apply Kd.V_alloc | apply Kd.V_drewN | apply Kd.V_drew)); exact HO_5.out) (Kd.R_base ho43) hb); have n2_ := Aside0.mk (Kd.R_lower ho43 (below_size (by repeat (first | (with_reducible first | exact HB.out | apply below_alloc | apply pw_below_drewN | apply below_drew1 | refine below_set ?_ GE101.out) | exact HB.out)))); have n3_ := Aside0.mk (blk_below (g := gb101) (o := .cells #[.int .i64 a0_0, .string a0_1, .int .i64 a0_2, .slice A0_3 l0_3.length c0_3] 24 (0, 0)) (by (with_reducible repeat (first | refine blk_drewN ?_ _ | refine blk_drew ?_ | refine blk_alloc ?_ _)); exact BK101.out) hb); have n4_ := Aside0.mk (below_step (by repeat (first | (with_reducible first | exact HB.out | apply below_alloc | apply pw_below_drewN | apply below_drew1 | refine below_set ?_ GE101.out) | exact HB.out)) hb); clear HO_4; clear HO_5; clear BK101; clear HB; have HO_4 := n0_; have HO_5 := n1_; have HO122 := n2_; have BK101 := n3_; have HB := n4_; clear n0_ n1_ n2_ n3_ n4_; clear hb ho43)))
              go_loopg [12] k1 (fun kq v12 w' => ∃ (x11_2 : List Bool) (x12_2 : Int), v12 = .int .i64 x12_2 ∧ Aside0 (ashlarlaw07_CnfAtoms.l1 kq t102 t103 t109 x11_2 x12_2 = some r) ∧ Aside0 (kq ≤ k1) ∧ Aside0 (Kd.N (Kd.slice 3 (Kd.int .i64)) 32 w' w.heap.size (fun k_ => some k_ ≠ (v121 : Value).ownBlock ∧ k_ ≠ gb101) v104 t103) ∧ Aside0 (Kd.R Kd.bool 4 w' w.heap.size (fun _ => True) v121 x11_2) ∧ Aside0 (w'.heap[gb101]? = some (.cells #[.int .i64 a0_0, .string a0_1, .int .i64 a0_2, (.slice A0_3 l0_3.length c0_3)] 24 (0, 0))) ∧ Aside0 (Below w.heap.size w w'))
              case atStart => exact ⟨(y120), (0), (by first | rfl | (simp; done) | (simp [*]; done)), H', ⟨Nat.le_refl _⟩, ⟨by (with_reducible repeat (first | apply Kd.N_alloc | apply Kd.N_drewN | apply Kd.N_drew)); exact Kd.N_mono HO_4.out (fun _ hk => ⟨hk.2, hk.1⟩)⟩, ⟨by (with_reducible repeat (first | apply Kd.R_alloc | apply Kd.R_drewN | apply Kd.R_drew)); exact HO122.out⟩, ⟨by (with_reducible repeat (first | refine blk_drewN ?_ _ | refine blk_drew ?_ | refine blk_alloc ?_ _)); exact BK101.out⟩, ⟨by repeat (first | (with_reducible first | exact HB.out | apply below_alloc | apply pw_below_drewN | apply below_drew1 | refine below_set ?_ GE101.out) | exact HB.out)⟩⟩
              case round =>
                clear H'
                try clear c1
                try clear p1
                try clear q1
                try clear hx1
                try clear c2
                try clear p2
                try clear c3
                try clear c4
                try clear c4b0
                try clear c4b1
                try clear c5
                try clear p6
                try clear c9
                try clear c9b0
                try clear c10
                try clear c10b0
                try clear c11
                try clear p11
                try clear q11
                try clear hx11
                try clear c12
                try clear c12b0
                try clear c12b1
                try clear c13
                try clear c13b0
                try clear c13b1
                try clear c14
                try clear c14b0
                try clear c15
                try clear c15b0
                try clear c19
                try clear c19b0
                try clear c19b1
                try clear c27
                try clear c27b0
                try clear c27b1
                try clear c39
                try clear c39b0
                try clear c39b1
                try clear c40
                try clear c40b0
                try clear c40b1
                try clear hcz7_0
                try clear hcz7_1
                try clear hcz7_2
                try clear hcz7_3
                try clear hfz7_0
                try clear hfz7_1
                try clear hfz7_2
                try clear hfz7_3
                try clear hx111_0
                try clear hx111_1
                try clear hx111_2
                try clear hx111_3
                try clear hx114_0
                try clear hx114_1
                try clear hx114_2
                try clear hx114_3
                try clear hx115_0
                try clear hx115_1
                try clear hx115_2
                try clear hx115_3
                try clear hx116_0
                try clear hx116_1
                try clear hx116_2
                try clear hx116_3
                try clear hx118_0
                try clear hx118_1
                try clear hx118_2
                try clear hx118_3
                try clear p111
                try clear p114
                try clear p115
                try clear p116
                try clear p118
                try clear p2
                try clear q111
                try clear q114
                try clear q115
                try clear q116
                try clear q118
                obtain ⟨x11_2, x12_2, rfl, HA, HK2, HO_4, HO_11, BK101, HB⟩ := hrel
                cases gk with
                | zero => exact absurd HA.out (by simp [ashlarlaw07_CnfAtoms.l1])
                | succ k2 =>
                  have H := HA.out
                  clear HA
                  simp only [ashlarlaw07_CnfAtoms.l1] at H
                  by_cases c44 : x12_2 < (t103.length : Int)
                  · rw [if_pos c44] at H
                    have c44b0 : decide (x12_2 < (t103.length : Int)) = true := decide_eq_true c44
                    clear c44
                    have H' := Aside0.mk H
                    clear H
                    obtain ⟨Ao45, co45, eo45⟩ := Kd.N_slice HO_4.out
                    subst eo45
                    go_wp2
                    repeat (go_quiet (fail); try go_wp2)
                    go_loopg [13] k2 (fun kq v13 w' => ∃ (x11_3 : List Bool) (x13_3 : Int), v13 = .int .i64 x13_3 ∧ Aside0 (ashlarlaw07_CnfAtoms.l2 kq t102 t103 t109 x11_3 x12_2 x13_3 = some r) ∧ Aside0 (kq ≤ k2) ∧ Aside0 (Kd.N (Kd.slice 3 (Kd.int .i64)) 32 w' w.heap.size (fun k_ => some k_ ≠ (v121 : Value).ownBlock ∧ k_ ≠ gb101) (.slice Ao45 t103.length co45) t103) ∧ Aside0 (Kd.R Kd.bool 4 w' w.heap.size (fun _ => True) v121 x11_3) ∧ Aside0 (w'.heap[gb101]? = some (.cells #[.int .i64 a0_0, .string a0_1, .int .i64 a0_2, (.slice A0_3 l0_3.length c0_3)] 24 (0, 0))) ∧ Aside0 (Below w.heap.size w w'))
                    case atStart => exact ⟨(x11_2), (0), (by first | rfl | (simp; done) | (simp [*]; done)), H', ⟨Nat.le_refl _⟩, ⟨by (with_reducible repeat (first | apply Kd.N_alloc | apply Kd.N_drewN | apply Kd.N_drew)); exact HO_4.out⟩, ⟨by (with_reducible repeat (first | apply Kd.R_alloc | apply Kd.R_drewN | apply Kd.R_drew)); exact HO_11.out⟩, ⟨by (with_reducible repeat (first | refine blk_drewN ?_ _ | refine blk_drew ?_ | refine blk_alloc ?_ _)); exact BK101.out⟩, ⟨by repeat (first | (with_reducible first | exact HB.out | apply below_alloc | apply pw_below_drewN | apply below_drew1 | refine below_set ?_ GE101.out) | exact HB.out)⟩⟩
                    case round =>
                      clear H'
                      try clear c1
                      try clear p1
                      try clear q1
                      try clear hx1
                      try clear c2
                      try clear p2
                      try clear c3
                      try clear c4
                      try clear c4b0
                      try clear c4b1
                      try clear c5
                      try clear p6
                      try clear c9
                      try clear c9b0
                      try clear c10
                      try clear c10b0
                      try clear c11
                      try clear p11
                      try clear q11
                      try clear hx11
                      try clear c12
                      try clear c12b0
                      try clear c12b1
                      try clear c13
                      try clear c13b0
                      try clear c13b1
                      try clear c14
                      try clear c14b0
                      try clear c15
                      try clear c15b0
                      try clear c19
                      try clear c19b0
                      try clear c19b1
                      try clear c27
                      try clear c27b0
                      try clear c27b1
                      try clear c39
                      try clear c39b0
                      try clear c39b1
                      try clear c40
                      try clear c40b0
                      try clear c40b1
                      try clear c44
                      try clear c44b0
                      try clear hcz7_0
                      try clear hcz7_1
                      try clear hcz7_2
                      try clear hcz7_3
                      try clear hfz7_0
                      try clear hfz7_1
                      try clear hfz7_2
                      try clear hfz7_3
                      try clear hx111_0
                      try clear hx111_1
                      try clear hx111_2
                      try clear hx111_3
                      try clear hx114_0
                      try clear hx114_1
                      try clear hx114_2
                      try clear hx114_3
                      try clear hx115_0
                      try clear hx115_1
                      try clear hx115_2
                      try clear hx115_3
                      try clear hx116_0
                      try clear hx116_1
                      try clear hx116_2
                      try clear hx116_3
                      try clear hx118_0
                      try clear hx118_1
                      try clear hx118_2
                      try clear hx118_3
                      try clear p1
                      try clear p11
                      try clear p111
                      try clear p114
                      try clear p115
                      try clear p116
                      try clear p118
                      try clear p2
                      try clear p6
                      try clear q1
                      try clear q11
                      try clear q111
                      try clear q114
                      try clear q115
                      try clear q116
                      try clear q118
                      obtain ⟨x11_3, x13_3, rfl, HA, HK3, HO_4, HO_11, BK101, HB⟩ := hrel
                      cases gk with
                      | zero => exact absurd HA.out (by simp [ashlarlaw07_CnfAtoms.l2])
                      | succ k3 =>
                        have H := HA.out
                        clear HA
                        simp only [ashlarlaw07_CnfAtoms.l2] at H
                        by_cases c46 : 0 ≤ x12_2
                        · rw [if_pos c46] at H
                          have c46b0 : decide (0 ≤ x12_2) = true := decide_eq_true c46
                          clear c46
                          by_cases c47 : x12_2 < (t103.length : Int)
                          · rw [if_pos c47] at H
                            have c47b0 : decide (x12_2 < (t103.length : Int)) = true := decide_eq_true c47
                            clear c47
                            by_cases c48 : x13_3 < ((rd_L3 t103 x12_2).length : Int)
                            · rw [if_pos c48] at H
                              have c48b0 : decide (x13_3 < ((rd_L3 t103 x12_2).length : Int)) = true := decide_eq_true c48
                              clear c48
                              by_cases c49 : 0 ≤ x13_3
                              · rw [if_pos c49] at H
                                have c49b0 : decide (0 ≤ x13_3) = true := decide_eq_true c49
                                clear c49
                                obtain ⟨ji50, hji50⟩ : ∃ j_ : Int, (mx (rd (rd_L3 t103 x12_2) x13_3) (wrap64 (-(rd (rd_L3 t103 x12_2) x13_3)))) = j_ := ⟨_, rfl⟩
                                replace H : (if (ji50) < 1 then (some false) else (if (ji50) > t109 then (some false) else (if 0 ≤ (ji50) then (if (ji50) < (x11_3.length : Int) then (ashlarlaw07_CnfAtoms.l2 k3 t102 t103 t109 (x11_3.set ((ji50) : Int).toNat true) x12_2 (wrap64 (x13_3 + 1))) else (none)) else (none)))) = some r := by first | (rw [hji50] at H; exact H) | (simp only [hji50] at H ⊢; exact H)
                                have hji50_ : (if (rd (rd_L3 t103 x12_2) x13_3) < (wrap64 (-(rd (rd_L3 t103 x12_2) x13_3))) then (wrap64 (-(rd (rd_L3 t103 x12_2) x13_3))) else (rd (rd_L3 t103 x12_2) x13_3)) = ji50 := hji50
                                by_cases c51 : (ji50) < 1
                                · rw [if_pos c51] at H
                                  have c51b0 : decide ((ji50) < 1) = true := decide_eq_true c51
                                  clear c51
                                  exact absurd (Option.some.inj H) (by rw [hr]; decide)
                                · rw [if_neg c51] at H
                                  have c51b0 : decide ((ji50) < 1) = false := decide_eq_false c51
                                  clear c51
                                  by_cases c52 : (ji50) > t109
                                  · rw [if_pos c52] at H
                                    have c52b0 : decide (t109 < (ji50)) = true := decide_eq_true c52
                                    clear c52
                                    exact absurd (Option.some.inj H) (by rw [hr]; decide)
                                  · rw [if_neg c52] at H
                                    have c52b0 : decide (t109 < (ji50)) = false := decide_eq_false c52
                                    clear c52
                                    by_cases c53 : 0 ≤ (ji50)
                                    · rw [if_pos c53] at H
                                      have c53b0 : decide (0 ≤ (ji50)) = true := decide_eq_true c53
                                      clear c53
                                      by_cases c54 : (ji50) < (x11_3.length : Int)
                                      · rw [if_pos c54] at H
                                        have c54b0 : decide ((ji50) < (x11_3.length : Int)) = true := decide_eq_true c54
                                        clear c54
                                        obtain ⟨y128, hy128⟩ : ∃ y_ : List Bool, y_ = (x11_3.set ((ji50) : Int).toNat true) := ⟨_, rfl⟩
                                        replace H : (ashlarlaw07_CnfAtoms.l2 k3 t102 t103 t109 y128 x12_2 (wrap64 (x13_3 + 1))) = some r := by first | (rw [hy128]; with_reducible exact H) | (have H2_ := (Option.bind_some _ _).symm.trans H; rw [hy128]; with_reducible exact H2_) | (have H2_ := (Option.bind_some _ _).symm.trans H; with_reducible exact H2_) | with_reducible exact H | (rw [hy128]; exact H) | exact H
                                        have Ny128 := Aside0.mk hy128
                                        clear hy128
                                        have H' := Aside0.mk H
                                        clear H
                                        have p123 : 0 ≤ (x12_2 : Int) := of_decide_eq_true (by first | (with_reducible assumption) | assumption)
                                        have q123 : x12_2 < (t103.length : Int) := of_decide_eq_true (by first | (with_reducible assumption) | assumption)
                                        obtain ⟨ad123, A123_0, c123_0, e123, hx123_0, hl123_0, hi123_0⟩ := at_L3 (Kd.N_reads' HO_4.out).2.2 x12_2 p123 q123
                                        cases e123
                                        obtain ⟨ce123, hce123, hMe123, hcc123⟩ := Kd.N_get HO_4.out [] x12_2 p123 (by first | exact q123 | exact of_decide_eq_true (by first | (with_reducible assumption) | assumption) | (have e_ := (Kd.N_reads' HO_4.out).1; omega))
                                        obtain ⟨ua123_0, uc123_0, rfl, ul123_0, ge123_0⟩ := Kd.FK_slice_open hMe123
                                        have hv123_0 := hcc123 0 _ rfl
                                        rw [Nat.add_zero, show ((Kd.slice 3 (Kd.int .i64))).sz = 1 from rfl, Nat.mul_one] at hv123_0
                                        replace hv123_0 := Option.some.inj (hv123_0.symm.trans hx123_0)
                                        injection hv123_0 with hva_ hvn_ hvc_
                                        rw [hva_] at ge123_0
                                        rw [hvc_] at ul123_0
                                        have HL123_0 := Aside0.mk (show Kd.V (Kd.int .i64) 3 _ w.heap.size _ _ (rd_L3 t103 x12_2) from Kd.V_mk ul123_0 ge123_0)
                                        clear hva_ hvn_ hvc_ ge123_0 ul123_0
                                        clear hcc123 hce123
                                        have HR123_0 := Aside0.mk hi123_0
                                        have HC123_0 := Aside0.mk hl123_0
                                        clear hi123_0 hl123_0
                                        replace p123 := eq_true p123
                                        replace q123 := eq_true q123
                                        have p124 : 0 ≤ (x12_2 : Int) := of_decide_eq_true (by first | (with_reducible assumption) | assumption)
                                        have q124 : x12_2 < (t103.length : Int) := of_decide_eq_true (by first | (with_reducible assumption) | assumption)
                                        obtain ⟨ad124, A124_0, c124_0, e124, hx124_0, hl124_0, hi124_0⟩ := at_L3 (Kd.N_reads' HO_4.out).2.2 x12_2 p124 q124
                                        obtain rfl : ad123 = ad124 := (by injection e124)
                                        obtain ⟨ce124, hce124, hMe124, hcc124⟩ := Kd.N_get HO_4.out [] x12_2 p124 (by first | exact q124 | exact of_decide_eq_true (by first | (with_reducible assumption) | assumption) | (have e_ := (Kd.N_reads' HO_4.out).1; omega))
                                        obtain ⟨ua124_0, uc124_0, rfl, ul124_0, ge124_0⟩ := Kd.FK_slice_open hMe124
                                        have hv124_0 := hcc124 0 _ rfl
                                        rw [Nat.add_zero, show ((Kd.slice 3 (Kd.int .i64))).sz = 1 from rfl, Nat.mul_one] at hv124_0
                                        replace hv124_0 := Option.some.inj (hv124_0.symm.trans hx124_0)
                                        injection hv124_0 with hva_ hvn_ hvc_
                                        rw [hva_] at ge124_0
                                        rw [hvc_] at ul124_0
                                        have HL124_0 := Aside0.mk (show Kd.V (Kd.int .i64) 3 _ w.heap.size _ _ (rd_L3 t103 x12_2) from Kd.V_mk ul124_0 ge124_0)
                                        clear hva_ hvn_ hvc_ ge124_0 ul124_0
                                        clear hcc124 hce124
                                        have HR124_0 := Aside0.mk hi124_0
                                        have HC124_0 := Aside0.mk hl124_0
                                        clear hi124_0 hl124_0
                                        replace p124 := eq_true p124
                                        replace q124 := eq_true q124
                                        have ea_ := Option.some.inj (hx123_0.symm.trans hx124_0)
                                        injection ea_ with ea_ en_ ec_
                                        subst ea_
                                        subst ec_
                                        clear en_
                                        have p125 : 0 ≤ (x13_3 : Int) := of_decide_eq_true (by first | (with_reducible assumption) | assumption)
                                        have q125 : x13_3 < ((rd_L3 t103 x12_2).length : Int) := of_decide_eq_true (by first | (with_reducible assumption) | assumption)
                                        obtain ⟨ad125, e125, hx125_0⟩ := Kd.at_int (by repeat (first | (with_reducible exact HR124_0.out) | (with_reducible refine Kd.C_alloc ?_ _) | (with_reducible refine Kd.C_drewN ?_ _) | (with_reducible refine Kd.C_drew ?_) | exact HR124_0.out)) x13_3 p125 q125
                                        cases e125
                                        replace p125 := eq_true p125
                                        replace q125 := eq_true q125
                                        have p126 : 0 ≤ (x12_2 : Int) := of_decide_eq_true (by first | (with_reducible assumption) | assumption)
                                        have q126 : x12_2 < (t103.length : Int) := of_decide_eq_true (by first | (with_reducible assumption) | assumption)
                                        obtain ⟨ad126, A126_0, c126_0, e126, hx126_0, hl126_0, hi126_0⟩ := at_L3 (Kd.N_reads' HO_4.out).2.2 x12_2 p126 q126
                                        obtain rfl : ad123 = ad126 := (by injection e126)
                                        obtain ⟨ce126, hce126, hMe126, hcc126⟩ := Kd.N_get HO_4.out [] x12_2 p126 (by first | exact q126 | exact of_decide_eq_true (by first | (with_reducible assumption) | assumption) | (have e_ := (Kd.N_reads' HO_4.out).1; omega))
                                        obtain ⟨ua126_0, uc126_0, rfl, ul126_0, ge126_0⟩ := Kd.FK_slice_open hMe126
                                        have hv126_0 := hcc126 0 _ rfl
                                        rw [Nat.add_zero, show ((Kd.slice 3 (Kd.int .i64))).sz = 1 from rfl, Nat.mul_one] at hv126_0
                                        replace hv126_0 := Option.some.inj (hv126_0.symm.trans hx126_0)
                                        injection hv126_0 with hva_ hvn_ hvc_
                                        rw [hva_] at ge126_0
                                        rw [hvc_] at ul126_0
                                        have HL126_0 := Aside0.mk (show Kd.V (Kd.int .i64) 3 _ w.heap.size _ _ (rd_L3 t103 x12_2) from Kd.V_mk ul126_0 ge126_0)
                                        clear hva_ hvn_ hvc_ ge126_0 ul126_0
                                        clear hcc126 hce126
                                        have HR126_0 := Aside0.mk hi126_0
                                        have HC126_0 := Aside0.mk hl126_0
                                        clear hi126_0 hl126_0
                                        replace p126 := eq_true p126
                                        replace q126 := eq_true q126
                                        have ea_ := Option.some.inj (hx123_0.symm.trans hx126_0)
                                        injection ea_ with ea_ en_ ec_
                                        subst ea_
                                        subst ec_
                                        clear en_
                                        have p127 : 0 ≤ (x13_3 : Int) := of_decide_eq_true (by first | (with_reducible assumption) | assumption)
                                        have q127 : x13_3 < ((rd_L3 t103 x12_2).length : Int) := of_decide_eq_true (by first | (with_reducible assumption) | assumption)
                                        obtain ⟨ad127, e127, hx127_0⟩ := Kd.at_int (by repeat (first | (with_reducible exact HR126_0.out) | (with_reducible refine Kd.C_alloc ?_ _) | (with_reducible refine Kd.C_drewN ?_ _) | (with_reducible refine Kd.C_drew ?_) | exact HR126_0.out)) x13_3 p127 q127
                                        cases e127
                                        replace p127 := eq_true p127
                                        replace q127 := eq_true q127
                                        have p55 : 0 ≤ ((ji50) : Int) := of_decide_eq_true (by first | (with_reducible assumption) | assumption)
                                        have q55 : ((ji50) : Int) < ((x11_3.length : Int) : Int) := of_decide_eq_true (by first | (with_reducible assumption) | assumption)
                                        obtain ⟨go55, co55, eo55, gb55, gl55, cl55, HG55⟩ := Kd.R_form HO_11.out (by omega)
                                        (first | cases eo55 | (injection eo55 with ea_ en_ ec_; (first | subst ea_ | (injection ea_ with ea_; subst ea_)); subst ec_; clear en_))
                                        have GB55 := Aside0.mk gb55
                                        have GG55 := Aside0.mk HG55
                                        clear gb55 gl55 HG55
                                        obtain ⟨hx55_0, hf55_0⟩ := Kd.R_celln false HO_11.out ((ji50) : Int) p55 q55
                                        replace p55 := eq_true p55
                                        replace q55 := eq_true q55
                                        have HP56 := Kd.R_putg HO_11.out ((ji50) : Int) true
                                        go_wp2_with (first | ((with_reducible refine gate_store (t := 4) (p := 130) rfl ?_); (try (rw [drewN_self wr]; generalize hq_ : World.drewN wr _ = wr; have n0_ := Aside0.mk (Kd.N_at hq_ HO_4.out); have n1_ := Aside0.mk (Kd.R_at hq_ HO_11.out); have n2_ := Aside0.mk (Kd.V_at hq_ HL123_0.out); have n3_ := Aside0.mk (Kd.V_at hq_ HL124_0.out); have n4_ := Aside0.mk (Kd.V_at hq_ HL126_0.out); have n5_ := Aside0.mk (blk_at hq_ BK101.out); have n6_ := Aside0.mk (below_at hq_ HB.out); clear hq_ HO_4 HO_11 HL123_0 HL124_0 HL126_0 BK101 HB; have HO_4 := n0_; have HO_11 := n1_; have HL123_0 := n2_; have HL124_0 := n3_; have HL126_0 := n4_; have BK101 := n5_; have HB := n6_; clear n0_ n1_ n2_ n3_ n4_ n5_ n6_; (try (have HP56 := Kd.R_putg HO_11.out ((ji50) : Int) true)))); refine store_event (t := 4) (p := 130) (v := ?vo_w57) (w1 := (wr.setCell ⟨go55, ((ji50) : Int).toNat, none⟩ (.bool true))) ?hg ?ho ?hn ?hr ?_; (case ho => rfl); (case hg => rfl); (case hn => rfl); (case hr => first | (go_simp; done) | (go_simp; rfl)); intro w57 hw; have hg : wr.grownBy w57 (some go55) := (by rw [hw]; exact HP56.2); have hp_ : Kd.R Kd.bool 4 w57 w.heap.size (fun _ => True) (.slice (some ⟨go55, 0, none⟩) x11_3.length co55) y128 := (by rw [hw, Ny128.out]; exact HP56.1); clear HP56; have n0_ := Aside0.mk (Kd.N_afterv (v := (.slice (some ⟨go55, 0, none⟩) x11_3.length co55)) (v1 := (.slice (some ⟨go55, 0, none⟩) x11_3.length co55)) (ok := (fun k_ => k_ ≠ gb101)) (by (with_reducible repeat (first | apply Kd.N_alloc | apply Kd.N_drewN | apply Kd.N_drew)); exact Kd.N_mono HO_4.out (fun _ hk => ⟨hk.2, hk.1⟩)) hg (.inl rfl)); have n1_ := Aside0.mk (hp_); have n2_ := Aside0.mk (blk_grown (g := gb101) (o := .cells #[.int .i64 a0_0, .string a0_1, .int .i64 a0_2, .slice A0_3 l0_3.length c0_3] 24 (0, 0)) (by (with_reducible repeat (first | refine blk_drewN ?_ _ | refine blk_drew ?_ | refine blk_alloc ?_ _)); exact BK101.out) hg (Kd.R_ne HO_11.out BK101.out (by decide))); have n3_ := Aside0.mk (Kd.V_afterv (v := (.slice (some ⟨go55, 0, none⟩) x11_3.length co55)) (v1 := (.slice (some ⟨go55, 0, none⟩) x11_3.length co55)) (ok := (fun k_ => some k_ ≠ (.slice (some ad123) t103.length co45 : Value).ownBlock ∧ k_ ≠ gb101)) (by (with_reducible repeat (first | apply Kd.V_alloc | apply Kd.V_drewN | apply Kd.V_drew)); exact Kd.V_mono HL123_0.out (fun _ hk => ⟨⟨hk.2, hk.1.2⟩, hk.1.1⟩)) hg (.inl rfl)); have n4_ := Aside0.mk (Kd.V_afterv (v := (.slice (some ⟨go55, 0, none⟩) x11_3.length co55)) (v1 := (.slice (some ⟨go55, 0, none⟩) x11_3.length co55)) (ok := (fun k_ => some k_ ≠ (.slice (some ad123) t103.length co45 : Value).ownBlock ∧ k_ ≠ gb101)) (by (with_reducible repeat (first | apply Kd.V_alloc | apply Kd.V_drewN | apply Kd.V_drew)); exact Kd.V_mono HL124_0.out (fun _ hk => ⟨⟨hk.2, hk.1.2⟩, hk.1.1⟩)) hg (.inl rfl)); have n5_ := Aside0.mk (Kd.V_afterv (v := (.slice (some ⟨go55, 0, none⟩) x11_3.length co55)) (v1 := (.slice (some ⟨go55, 0, none⟩) x11_3.length co55)) (ok := (fun k_ => some k_ ≠ (.slice (some ad123) t103.length co45 : Value).ownBlock ∧ k_ ≠ gb101)) (by (with_reducible repeat (first | apply Kd.V_alloc | apply Kd.V_drewN | apply Kd.V_drew)); exact Kd.V_mono HL126_0.out (fun _ hk => ⟨⟨hk.2, hk.1.2⟩, hk.1.1⟩)) hg (.inl rfl)); have n6_ := Aside0.mk ((by rw [hw]; exact below_set (HB.out) GB55.out : Below w.heap.size w w57)); clear HO_4; clear HO_11; clear BK101; clear HL123_0; clear HL124_0; clear HL126_0; clear HB; have HO_4 := n0_; have HO_11 := n1_; have BK101 := n2_; have HL123_0 := n3_; have HL124_0 := n4_; have HL126_0 := n5_; have HB := n6_; clear n0_ n1_ n2_ n3_ n4_ n5_ n6_; clear hg hw hp_))
                                        repeat (go_quiet (first | ((with_reducible refine gate_store (t := 4) (p := 130) rfl ?_); (try (rw [drewN_self wr]; generalize hq_ : World.drewN wr _ = wr; have n0_ := Aside0.mk (Kd.N_at hq_ HO_4.out); have n1_ := Aside0.mk (Kd.R_at hq_ HO_11.out); have n2_ := Aside0.mk (Kd.V_at hq_ HL123_0.out); have n3_ := Aside0.mk (Kd.V_at hq_ HL124_0.out); have n4_ := Aside0.mk (Kd.V_at hq_ HL126_0.out); have n5_ := Aside0.mk (blk_at hq_ BK101.out); have n6_ := Aside0.mk (below_at hq_ HB.out); clear hq_ HO_4 HO_11 HL123_0 HL124_0 HL126_0 BK101 HB; have HO_4 := n0_; have HO_11 := n1_; have HL123_0 := n2_; have HL124_0 := n3_; have HL126_0 := n4_; have BK101 := n5_; have HB := n6_; clear n0_ n1_ n2_ n3_ n4_ n5_ n6_; (try (have HP56 := Kd.R_putg HO_11.out ((ji50) : Int) true)))); refine store_event (t := 4) (p := 130) (v := ?vo_w57) (w1 := (wr.setCell ⟨go55, ((ji50) : Int).toNat, none⟩ (.bool true))) ?hg ?ho ?hn ?hr ?_; (case ho => rfl); (case hg => rfl); (case hn => rfl); (case hr => first | (go_simp; done) | (go_simp; rfl)); intro w57 hw; have hg : wr.grownBy w57 (some go55) := (by rw [hw]; exact HP56.2); have hp_ : Kd.R Kd.bool 4 w57 w.heap.size (fun _ => True) (.slice (some ⟨go55, 0, none⟩) x11_3.length co55) y128 := (by rw [hw, Ny128.out]; exact HP56.1); clear HP56; have n0_ := Aside0.mk (Kd.N_afterv (v := (.slice (some ⟨go55, 0, none⟩) x11_3.length co55)) (v1 := (.slice (some ⟨go55, 0, none⟩) x11_3.length co55)) (ok := (fun k_ => k_ ≠ gb101)) (by (with_reducible repeat (first | apply Kd.N_alloc | apply Kd.N_drewN | apply Kd.N_drew)); exact Kd.N_mono HO_4.out (fun _ hk => ⟨hk.2, hk.1⟩)) hg (.inl rfl)); have n1_ := Aside0.mk (hp_); have n2_ := Aside0.mk (blk_grown (g := gb101) (o := .cells #[.int .i64 a0_0, .string a0_1, .int .i64 a0_2, .slice A0_3 l0_3.length c0_3] 24 (0, 0)) (by (with_reducible repeat (first | refine blk_drewN ?_ _ | refine blk_drew ?_ | refine blk_alloc ?_ _)); exact BK101.out) hg (Kd.R_ne HO_11.out BK101.out (by decide))); have n3_ := Aside0.mk (Kd.V_afterv (v := (.slice (some ⟨go55, 0, none⟩) x11_3.length co55)) (v1 := (.slice (some ⟨go55, 0, none⟩) x11_3.length co55)) (ok := (fun k_ => some k_ ≠ (.slice (some ad123) t103.length co45 : Value).ownBlock ∧ k_ ≠ gb101)) (by (with_reducible repeat (first | apply Kd.V_alloc | apply Kd.V_drewN | apply Kd.V_drew)); exact Kd.V_mono HL123_0.out (fun _ hk => ⟨⟨hk.2, hk.1.2⟩, hk.1.1⟩)) hg (.inl rfl)); have n4_ := Aside0.mk (Kd.V_afterv (v := (.slice (some ⟨go55, 0, none⟩) x11_3.length co55)) (v1 := (.slice (some ⟨go55, 0, none⟩) x11_3.length co55)) (ok := (fun k_ => some k_ ≠ (.slice (some ad123) t103.length co45 : Value).ownBlock ∧ k_ ≠ gb101)) (by (with_reducible repeat (first | apply Kd.V_alloc | apply Kd.V_drewN | apply Kd.V_drew)); exact Kd.V_mono HL124_0.out (fun _ hk => ⟨⟨hk.2, hk.1.2⟩, hk.1.1⟩)) hg (.inl rfl)); have n5_ := Aside0.mk (Kd.V_afterv (v := (.slice (some ⟨go55, 0, none⟩) x11_3.length co55)) (v1 := (.slice (some ⟨go55, 0, none⟩) x11_3.length co55)) (ok := (fun k_ => some k_ ≠ (.slice (some ad123) t103.length co45 : Value).ownBlock ∧ k_ ≠ gb101)) (by (with_reducible repeat (first | apply Kd.V_alloc | apply Kd.V_drewN | apply Kd.V_drew)); exact Kd.V_mono HL126_0.out (fun _ hk => ⟨⟨hk.2, hk.1.2⟩, hk.1.1⟩)) hg (.inl rfl)); have n6_ := Aside0.mk ((by rw [hw]; exact below_set (HB.out) GB55.out : Below w.heap.size w w57)); clear HO_4; clear HO_11; clear BK101; clear HL123_0; clear HL124_0; clear HL126_0; clear HB; have HO_4 := n0_; have HO_11 := n1_; have BK101 := n2_; have HL123_0 := n3_; have HL124_0 := n4_; have HL126_0 := n5_; have HB := n6_; clear n0_ n1_ n2_ n3_ n4_ n5_ n6_; clear hg hw hp_)); try go_wp2_with (first | ((with_reducible refine gate_store (t := 4) (p := 130) rfl ?_); (try (rw [drewN_self wr]; generalize hq_ : World.drewN wr _ = wr; have n0_ := Aside0.mk (Kd.N_at hq_ HO_4.out); have n1_ := Aside0.mk (Kd.R_at hq_ HO_11.out); have n2_ := Aside0.mk (Kd.V_at hq_ HL123_0.out); have n3_ := Aside0.mk (Kd.V_at hq_ HL124_0.out); have n4_ := Aside0.mk (Kd.V_at hq_ HL126_0.out); have n5_ := Aside0.mk (blk_at hq_ BK101.out); have n6_ := Aside0.mk (below_at hq_ HB.out); clear hq_ HO_4 HO_11 HL123_0 HL124_0 HL126_0 BK101 HB; have HO_4 := n0_; have HO_11 := n1_; have HL123_0 := n2_; have HL124_0 := n3_; have HL126_0 := n4_; have BK101 := n5_; have HB := n6_; clear n0_ n1_ n2_ n3_ n4_ n5_ n6_; (try (have HP56 := Kd.R_putg HO_11.out ((ji50) : Int) true)))); refine store_event (t := 4) (p := 130) (v := ?vo_w57) (w1 := (wr.setCell ⟨go55, ((ji50) : Int).toNat, none⟩ (.bool true))) ?hg ?ho ?hn ?hr ?_; (case ho => rfl); (case hg => rfl); (case hn => rfl); (case hr => first | (go_simp; done) | (go_simp; rfl)); intro w57 hw; have hg : wr.grownBy w57 (some go55) := (by rw [hw]; exact HP56.2); have hp_ : Kd.R Kd.bool 4 w57 w.heap.size (fun _ => True) (.slice (some ⟨go55, 0, none⟩) x11_3.length co55) y128 := (by rw [hw, Ny128.out]; exact HP56.1); clear HP56; have n0_ := Aside0.mk (Kd.N_afterv (v := (.slice (some ⟨go55, 0, none⟩) x11_3.length co55)) (v1 := (.slice (some ⟨go55, 0, none⟩) x11_3.length co55)) (ok := (fun k_ => k_ ≠ gb101)) (by (with_reducible repeat (first | apply Kd.N_alloc | apply Kd.N_drewN | apply Kd.N_drew)); exact Kd.N_mono HO_4.out (fun _ hk => ⟨hk.2, hk.1⟩)) hg (.inl rfl)); have n1_ := Aside0.mk (hp_); have n2_ := Aside0.mk (blk_grown (g := gb101) (o := .cells #[.int .i64 a0_0, .string a0_1, .int .i64 a0_2, .slice A0_3 l0_3.length c0_3] 24 (0, 0)) (by (with_reducible repeat (first | refine blk_drewN ?_ _ | refine blk_drew ?_ | refine blk_alloc ?_ _)); exact BK101.out) hg (Kd.R_ne HO_11.out BK101.out (by decide))); have n3_ := Aside0.mk (Kd.V_afterv (v := (.slice (some ⟨go55, 0, none⟩) x11_3.length co55)) (v1 := (.slice (some ⟨go55, 0, none⟩) x11_3.length co55)) (ok := (fun k_ => some k_ ≠ (.slice (some ad123) t103.length co45 : Value).ownBlock ∧ k_ ≠ gb101)) (by (with_reducible repeat (first | apply Kd.V_alloc | apply Kd.V_drewN | apply Kd.V_drew)); exact Kd.V_mono HL123_0.out (fun _ hk => ⟨⟨hk.2, hk.1.2⟩, hk.1.1⟩)) hg (.inl rfl)); have n4_ := Aside0.mk (Kd.V_afterv (v := (.slice (some ⟨go55, 0, none⟩) x11_3.length co55)) (v1 := (.slice (some ⟨go55, 0, none⟩) x11_3.length co55)) (ok := (fun k_ => some k_ ≠ (.slice (some ad123) t103.length co45 : Value).ownBlock ∧ k_ ≠ gb101)) (by (with_reducible repeat (first | apply Kd.V_alloc | apply Kd.V_drewN | apply Kd.V_drew)); exact Kd.V_mono HL124_0.out (fun _ hk => ⟨⟨hk.2, hk.1.2⟩, hk.1.1⟩)) hg (.inl rfl)); have n5_ := Aside0.mk (Kd.V_afterv (v := (.slice (some ⟨go55, 0, none⟩) x11_3.length co55)) (v1 := (.slice (some ⟨go55, 0, none⟩) x11_3.length co55)) (ok := (fun k_ => some k_ ≠ (.slice (some ad123) t103.length co45 : Value).ownBlock ∧ k_ ≠ gb101)) (by (with_reducible repeat (first | apply Kd.V_alloc | apply Kd.V_drewN | apply Kd.V_drew)); exact Kd.V_mono HL126_0.out (fun _ hk => ⟨⟨hk.2, hk.1.2⟩, hk.1.1⟩)) hg (.inl rfl)); have n6_ := Aside0.mk ((by rw [hw]; exact below_set (HB.out) GB55.out : Below w.heap.size w w57)); clear HO_4; clear HO_11; clear BK101; clear HL123_0; clear HL124_0; clear HL126_0; clear HB; have HO_4 := n0_; have HO_11 := n1_; have BK101 := n2_; have HL123_0 := n3_; have HL124_0 := n4_; have HL126_0 := n5_; have HB := n6_; clear n0_ n1_ n2_ n3_ n4_ n5_ n6_; clear hg hw hp_)))
                                        go_roundg k3
                                        case measure => have := HK1.out; have := HK2.out; have := HK3.out; omega
                                        case rel => exact ⟨(y128), (wrap64 (x13_3 + 1)), (by first | rfl | (simp; done) | (simp [*]; done)), H', ⟨by have := HK1.out; have := HK2.out; have := HK3.out; omega⟩, ⟨Kd.N_far (Kd.N_drewN HO_4.out _) (fun k hk e => hk.1 (by rw [e]; rfl)) _⟩, ⟨by rw [Ny128.out]; exact (Kd.R_putg (Kd.R_drewN HO_11.out _) _ true).1⟩, ⟨blk_far (blk_drewN BK101.out _) (fun e => Kd.R_ne HO_11.out BK101.out (by decide) (by rw [e]; rfl)) _⟩, ⟨below_set (pw_below_drewN HB.out _) GB55.out⟩⟩
                                      · rw [if_neg c54] at H
                                        exact absurd H (by simp)
                                    · rw [if_neg c53] at H
                                      exact absurd H (by simp)
                              · rw [if_neg c49] at H
                                exact absurd H (by simp)
                            · rw [if_neg c48] at H
                              have c48b0 : decide (x13_3 < ((rd_L3 t103 x12_2).length : Int)) = false := decide_eq_false c48
                              clear c48
                              have H' := Aside0.mk H
                              clear H
                              have p123 : 0 ≤ (x12_2 : Int) := of_decide_eq_true (by first | (with_reducible assumption) | assumption)
                              have q123 : x12_2 < (t103.length : Int) := of_decide_eq_true (by first | (with_reducible assumption) | assumption)
                              obtain ⟨ad123, A123_0, c123_0, e123, hx123_0, hl123_0, hi123_0⟩ := at_L3 (Kd.N_reads' HO_4.out).2.2 x12_2 p123 q123
                              cases e123
                              obtain ⟨ce123, hce123, hMe123, hcc123⟩ := Kd.N_get HO_4.out [] x12_2 p123 (by first | exact q123 | exact of_decide_eq_true (by first | (with_reducible assumption) | assumption) | (have e_ := (Kd.N_reads' HO_4.out).1; omega))
                              obtain ⟨ua123_0, uc123_0, rfl, ul123_0, ge123_0⟩ := Kd.FK_slice_open hMe123
                              have hv123_0 := hcc123 0 _ rfl
                              rw [Nat.add_zero, show ((Kd.slice 3 (Kd.int .i64))).sz = 1 from rfl, Nat.mul_one] at hv123_0
                              replace hv123_0 := Option.some.inj (hv123_0.symm.trans hx123_0)
                              injection hv123_0 with hva_ hvn_ hvc_
                              rw [hva_] at ge123_0
                              rw [hvc_] at ul123_0
                              have HL123_0 := Aside0.mk (show Kd.V (Kd.int .i64) 3 _ w.heap.size _ _ (rd_L3 t103 x12_2) from Kd.V_mk ul123_0 ge123_0)
                              clear hva_ hvn_ hvc_ ge123_0 ul123_0
                              clear hcc123 hce123
                              have HR123_0 := Aside0.mk hi123_0
                              have HC123_0 := Aside0.mk hl123_0
                              clear hi123_0 hl123_0
                              replace p123 := eq_true p123
                              replace q123 := eq_true q123
                              go_wp2
                              repeat (go_quiet (fail); try go_wp2)
                              go_roundg k3
                              case measure => have := HK1.out; have := HK2.out; have := HK3.out; omega
                              case rel => exact ⟨(x11_3), (wrap64 (x12_2 + 1)), (by first | rfl | (simp; done) | (simp [*]; done)), H', ⟨by have := HK1.out; have := HK2.out; have := HK3.out; omega⟩, ⟨by (with_reducible repeat (first | apply Kd.N_alloc | apply Kd.N_drewN | apply Kd.N_drew)); exact HO_4.out⟩, ⟨by (with_reducible repeat (first | apply Kd.R_alloc | apply Kd.R_drewN | apply Kd.R_drew)); exact HO_11.out⟩, ⟨by (with_reducible repeat (first | refine blk_drewN ?_ _ | refine blk_drew ?_ | refine blk_alloc ?_ _)); exact BK101.out⟩, ⟨by repeat (first | (with_reducible first | exact HB.out | apply below_alloc | apply pw_below_drewN | apply below_drew1 | refine below_set ?_ GE101.out) | exact HB.out)⟩⟩
                          · rw [if_neg c47] at H
                            exact absurd H (by simp)
                        · rw [if_neg c46] at H
                          exact absurd H (by simp)
                  · rw [if_neg c44] at H
                    have c44b0 : decide (x12_2 < (t103.length : Int)) = false := decide_eq_false c44
                    clear c44
                    have H' := Aside0.mk H
                    clear H
                    obtain ⟨Ao58, co58, eo58⟩ := Kd.N_slice HO_4.out
                    subst eo58
                    go_wp2
                    repeat (go_quiet (fail); try go_wp2)
                    go_loopg [15] k2 (fun kq v15 w' => ∃ (x15_3 : Int), v15 = .int .i64 x15_3 ∧ Aside0 (ashlarlaw07_CnfAtoms.l3 kq t102 t103 t109 x11_2 x15_3 = some r) ∧ Aside0 (kq ≤ k2) ∧ Aside0 (Kd.N (Kd.slice 3 (Kd.int .i64)) 32 w' w.heap.size (fun k_ => some k_ ≠ (v121 : Value).ownBlock ∧ k_ ≠ gb101) (.slice Ao58 t103.length co58) t103) ∧ Aside0 (Kd.R Kd.bool 4 w' w.heap.size (fun _ => True) v121 x11_2) ∧ Aside0 (w'.heap[gb101]? = some (.cells #[.int .i64 a0_0, .string a0_1, .int .i64 a0_2, (.slice A0_3 l0_3.length c0_3)] 24 (0, 0))) ∧ Aside0 (Below w.heap.size w w'))
                    case atStart => exact ⟨(1), (by first | rfl | (simp; done) | (simp [*]; done)), H', ⟨Nat.le_refl _⟩, ⟨by (with_reducible repeat (first | apply Kd.N_alloc | apply Kd.N_drewN | apply Kd.N_drew)); exact HO_4.out⟩, ⟨by (with_reducible repeat (first | apply Kd.R_alloc | apply Kd.R_drewN | apply Kd.R_drew)); exact HO_11.out⟩, ⟨by (with_reducible repeat (first | refine blk_drewN ?_ _ | refine blk_drew ?_ | refine blk_alloc ?_ _)); exact BK101.out⟩, ⟨by repeat (first | (with_reducible first | exact HB.out | apply below_alloc | apply pw_below_drewN | apply below_drew1 | refine below_set ?_ GE101.out) | exact HB.out)⟩⟩
                    case round =>
                      clear H'
                      try clear c1
                      try clear p1
                      try clear q1
                      try clear hx1
                      try clear c2
                      try clear p2
                      try clear c3
                      try clear c4
                      try clear c4b0
                      try clear c4b1
                      try clear c5
                      try clear p5
                      try clear q5
                      try clear hx5
                      try clear hf5
                      try clear p6
                      try clear c9
                      try clear c9b0
                      try clear c10
                      try clear c10b0
                      try clear c11
                      try clear p11
                      try clear q11
                      try clear hx11
                      try clear c12
                      try clear c12b0
                      try clear c12b1
                      try clear p12
                      try clear q12
                      try clear hx12
                      try clear c13
                      try clear c13b0
                      try clear c13b1
                      try clear c14
                      try clear c14b0
                      try clear c15
                      try clear c15b0
                      try clear c19
                      try clear c19b0
                      try clear c19b1
                      try clear c27
                      try clear c27b0
                      try clear c27b1
                      try clear c39
                      try clear c39b0
                      try clear c39b1
                      try clear c40
                      try clear c40b0
                      try clear c40b1
                      try clear c44
                      try clear c44b0
                      try clear c46
                      try clear c46b0
                      try clear c47
                      try clear c47b0
                      try clear c48
                      try clear c48b0
                      try clear c49
                      try clear c49b0
                      try clear c51
                      try clear c51b0
                      try clear c52
                      try clear c52b0
                      try clear c53
                      try clear c53b0
                      try clear c54
                      try clear c54b0
                      try clear p55
                      try clear q55
                      try clear hx55
                      try clear hf55
                      try clear hcz7_0
                      try clear hcz7_1
                      try clear hcz7_2
                      try clear hcz7_3
                      try clear hfz7_0
                      try clear hfz7_1
                      try clear hfz7_2
                      try clear hfz7_3
                      try clear hx111_0
                      try clear hx111_1
                      try clear hx111_2
                      try clear hx111_3
                      try clear hx114_0
                      try clear hx114_1
                      try clear hx114_2
                      try clear hx114_3
                      try clear hx115_0
                      try clear hx115_1
                      try clear hx115_2
                      try clear hx115_3
                      try clear hx116_0
                      try clear hx116_1
                      try clear hx116_2
                      try clear hx116_3
                      try clear hx118_0
                      try clear hx118_1
                      try clear hx118_2
                      try clear hx118_3
                      try clear hx123_0
                      try clear hx124_0
                      try clear hx125_0
                      try clear hx126_0
                      try clear hx127_0
                      try clear hx55_0
                      try clear p1
                      try clear p11
                      try clear p111
                      try clear p114
                      try clear p115
                      try clear p116
                      try clear p118
                      try clear p123
                      try clear p124
                      try clear p125
                      try clear p126
                      try clear p127
                      try clear p2
                      try clear p55
                      try clear p6
                      try clear q1
                      try clear q11
                      try clear q111
                      try clear q114
                      try clear q115
                      try clear q116
                      try clear q118
                      try clear q123
                      try clear q124
                      try clear q125
                      try clear q126
                      try clear q127
                      try clear q55
                      obtain ⟨x15_3, rfl, HA, HK3, HO_4, HO_11, BK101, HB⟩ := hrel
                      cases gk with
                      | zero => exact absurd HA.out (by simp [ashlarlaw07_CnfAtoms.l3])
                      | succ k3 =>
                        have H := HA.out
                        clear HA
                        simp only [ashlarlaw07_CnfAtoms.l3] at H
                        by_cases c59 : x15_3 ≤ t109
                        · rw [if_pos c59] at H
                          have c59b0 : decide (x15_3 ≤ t109) = true := decide_eq_true c59
                          clear c59
                          by_cases c60 : 0 ≤ x15_3
                          · rw [if_pos c60] at H
                            have c60b0 : decide (0 ≤ x15_3) = true := decide_eq_true c60
                            clear c60
                            by_cases c61 : x15_3 < (x11_2.length : Int)
                            · rw [if_pos c61] at H
                              have c61b0 : decide (x15_3 < (x11_2.length : Int)) = true := decide_eq_true c61
                              clear c61
                              obtain ⟨bq62, hbq62⟩ : ∃ b_ : Bool, b_ = (rdOf false x11_2 x15_3) := ⟨_, rfl⟩
                              replace H : (if bq62 = true then (ashlarlaw07_CnfAtoms.l3 k3 t102 t103 t109 x11_2 (wrap64 (x15_3 + 1))) else (some false)) = some r := by rw [← hbq62] at H; exact H
                              have Nbq62 := Aside0.mk hbq62
                              clear hbq62
                              by_cases c63 : bq62 = true
                              · subst c63
                                have H1 : (ashlarlaw07_CnfAtoms.l3 k3 t102 t103 t109 x11_2 (wrap64 (x15_3 + 1))) = some r := by rw [if_pos rfl] at H; exact H
                                clear H
                                have H := H1
                                clear H1
                                have H' := Aside0.mk H
                                clear H
                                obtain ⟨Ao64, co64, eo64⟩ := Kd.R_slice HO_11.out
                                subst eo64
                                have p129 : 0 ≤ (x15_3 : Int) := of_decide_eq_true (by first | (with_reducible assumption) | assumption)
                                have q129 : x15_3 < (x11_2.length : Int) := of_decide_eq_true (by first | (with_reducible assumption) | assumption)
                                obtain ⟨ad129, e129, hx129_0⟩ := Kd.at_bool (Kd.R_reads' HO_11.out).2.2 x15_3 p129 q129
                                (try rw [← Nbq62.out] at hx129_0)
                                cases e129
                                replace p129 := eq_true p129
                                replace q129 := eq_true q129
                                go_wp2
                                repeat (go_quiet (fail); try go_wp2)
                                go_roundg k3
                                case measure => have := HK1.out; have := HK2.out; have := HK3.out; omega
                                case rel => exact ⟨(wrap64 (x15_3 + 1)), (by first | rfl | (simp; done) | (simp [*]; done)), H', ⟨by have := HK1.out; have := HK2.out; have := HK3.out; omega⟩, ⟨by (with_reducible repeat (first | apply Kd.N_alloc | apply Kd.N_drewN | apply Kd.N_drew)); exact HO_4.out⟩, ⟨by (with_reducible repeat (first | apply Kd.R_alloc | apply Kd.R_drewN | apply Kd.R_drew)); exact HO_11.out⟩, ⟨by (with_reducible repeat (first | refine blk_drewN ?_ _ | refine blk_drew ?_ | refine blk_alloc ?_ _)); exact BK101.out⟩, ⟨by repeat (first | (with_reducible first | exact HB.out | apply below_alloc | apply pw_below_drewN | apply below_drew1 | refine below_set ?_ GE101.out) | exact HB.out)⟩⟩
                              · replace c63 := Bool.eq_false_iff.mpr c63
                                subst c63
                                have H1 : (some false) = some r := by rw [if_neg (show ¬ (false = true) by decide)] at H; exact H
                                clear H
                                have H := H1
                                clear H1
                                exact absurd (Option.some.inj H) (by rw [hr]; decide)
                            · rw [if_neg c61] at H
                              exact absurd H (by simp)
                          · rw [if_neg c60] at H
                            exact absurd H (by simp)
                        · rw [if_neg c59] at H
                          have c59b0 : decide (x15_3 ≤ t109) = false := decide_eq_false c59
                          clear c59
                          by_cases c66 : t102 = true
                          · subst c66
                            have H1 : (if (t103.length : Int) > 0 then (if 0 ≤ (wrap64 ((t103.length : Int) - 1)) then (if (wrap64 ((t103.length : Int) - 1)) < (t103.length : Int) then (some (((rd_L3 t103 (wrap64 ((t103.length : Int) - 1))).length : Int) == 1)) else (none)) else (none)) else (some false)) = some r := by rw [if_pos rfl] at H; exact H
                            clear H
                            have H := H1
                            clear H1
                            by_cases c67 : (t103.length : Int) > 0
                            · rw [if_pos c67] at H
                              have c67b0 : decide (0 < (t103.length : Int)) = true := decide_eq_true c67
                              have c67b1 : decide (0 < t103.length) = true := decide_eq_true (by omega)
                              clear c67
                              obtain ⟨ji68, hji68⟩ : ∃ j_ : Int, (wrap64 ((t103.length : Int) - 1)) = j_ := ⟨_, rfl⟩
                              replace H : (if 0 ≤ (ji68) then (if (ji68) < (t103.length : Int) then (some (((rd_L3 t103 (ji68)).length : Int) == 1)) else (none)) else (none)) = some r := by first | (rw [hji68] at H; exact H) | (simp only [hji68] at H ⊢; exact H)
                              have hji68w : (IntKind.i64.wrap ((t103.length : Int) - 1)) = ji68 := (i64_w _).trans hji68
                              by_cases c69 : 0 ≤ (ji68)
                              · rw [if_pos c69] at H
                                have c69b0 : decide (0 ≤ (ji68)) = true := decide_eq_true c69
                                clear c69
                                by_cases c70 : (ji68) < (t103.length : Int)
                                · rw [if_pos c70] at H
                                  have c70b0 : decide ((ji68) < (t103.length : Int)) = true := decide_eq_true c70
                                  clear c70
                                  obtain rfl := Option.some.inj H
                                  have p130 : 0 ≤ ((ji68) : Int) := of_decide_eq_true (by first | (with_reducible assumption) | assumption)
                                  have q130 : (ji68) < (t103.length : Int) := of_decide_eq_true (by first | (with_reducible assumption) | assumption)
                                  obtain ⟨ad130, A130_0, c130_0, e130, hx130_0, hl130_0, hi130_0⟩ := at_L3 (Kd.N_reads' HO_4.out).2.2 (ji68) p130 q130
                                  cases e130
                                  obtain ⟨ce130, hce130, hMe130, hcc130⟩ := Kd.N_get HO_4.out [] (ji68) p130 (by first | exact q130 | exact of_decide_eq_true (by first | (with_reducible assumption) | assumption) | (have e_ := (Kd.N_reads' HO_4.out).1; omega))
                                  obtain ⟨ua130_0, uc130_0, rfl, ul130_0, ge130_0⟩ := Kd.FK_slice_open hMe130
                                  have hv130_0 := hcc130 0 _ rfl
                                  rw [Nat.add_zero, show ((Kd.slice 3 (Kd.int .i64))).sz = 1 from rfl, Nat.mul_one] at hv130_0
                                  replace hv130_0 := Option.some.inj (hv130_0.symm.trans hx130_0)
                                  injection hv130_0 with hva_ hvn_ hvc_
                                  rw [hva_] at ge130_0
                                  rw [hvc_] at ul130_0
                                  have HL130_0 := Aside0.mk (show Kd.V (Kd.int .i64) 3 _ w.heap.size _ _ (rd_L3 t103 (ji68)) from Kd.V_mk ul130_0 ge130_0)
                                  clear hva_ hvn_ hvc_ ge130_0 ul130_0
                                  clear hcc130 hce130
                                  have HR130_0 := Aside0.mk hi130_0
                                  have HC130_0 := Aside0.mk hl130_0
                                  clear hi130_0 hl130_0
                                  replace p130 := eq_true p130
                                  replace q130 := eq_true q130
                                  go_wp2
                                  repeat (go_quiet (fail); try go_wp2)
                                  go_ret
                                  exact ⟨by first | rfl | (simp [errW_none, errW_some] <;> rfl) | (simp only [← hji38, ← hji68]; first | rfl | (simp [errW_none, errW_some] <;> rfl)) | (simp [*, errW_none, errW_some] <;> rfl), by repeat (first | (with_reducible first | exact HB.out | apply below_alloc | apply pw_below_drewN | apply below_drew1 | refine below_set ?_ GE101.out) | exact HB.out)⟩
                                · rw [if_neg c70] at H
                                  exact absurd H (by simp)
                              · rw [if_neg c69] at H
                                exact absurd H (by simp)
                            · rw [if_neg c67] at H
                              have c67b0 : decide (0 < (t103.length : Int)) = false := decide_eq_false c67
                              have c67b1 : decide (0 < t103.length) = false := decide_eq_false (by omega)
                              clear c67
                              exact absurd (Option.some.inj H) (by rw [hr]; decide)
                          · replace c66 := Bool.eq_false_iff.mpr c66
                            subst c66
                            have H1 : (some false) = some r := by rw [if_neg (show ¬ (false = true) by decide)] at H; exact H
                            clear H
                            have H := H1
                            clear H1
                            exact absurd (Option.some.inj H) (by rw [hr]; decide)
            · rw [if_neg c40] at H
              exact absurd H (by simp)
          · rw [if_neg c39] at H
            exact absurd H (by simp)
  · rw [if_neg c4] at H
    have c4b0 : (t110 == 0) = false := beq_eq_false_iff_ne.mpr c4
    have c4b1 : (t110 != 0) = true := bne_iff_ne.mpr c4
    by_cases c71 : t102 = true
    · subst c71
      have H1 : (if (t103.length : Int) = 0 then (if (t106.length : Int) = 0 then (some (t109 == 0)) else (some false)) else (some false)) = some r := by rw [if_pos rfl] at H; exact H
      clear H
      have H := H1
      clear H1
      by_cases c72 : (t103.length : Int) = 0
      · rw [if_pos c72] at H
        have c72b0 : ((t103.length : Int) == 0) = true := beq_iff_eq.mpr c72
        have c72b1 : ((t103.length : Int) != 0) = false := bne_eq_false_iff_eq.mpr c72
        clear c72
        by_cases c73 : (t106.length : Int) = 0
        · rw [if_pos c73] at H
          have c73b0 : ((t106.length : Int) == 0) = true := beq_iff_eq.mpr c73
          have c73b1 : ((t106.length : Int) != 0) = false := bne_eq_false_iff_eq.mpr c73
          clear c73
          obtain rfl := Option.some.inj H
          go_enter Tryd.func5, Tryd.ntmps5
          go_wp2_with (first | ((with_reducible refine gate_dst (N := 1) rfl ?_); (try (refine gate_guard (by rfl) ?_; dsimp only)); refine box_event ?hg (N := 1) ?hd (cs := #[.int .i64 a0_0, .string a0_1, .int .i64 a0_2, .slice A0_3 l0_3.length c0_3]) (t := 24) ?hr ?_; (case hd => rfl); (case hg => rfl); (case hr => first | (go_simp; done) | (go_simp; rfl)); intro gb101 hg w74 hbox hb; have n0_ := Aside0.mk (below_step (by repeat (first | (with_reducible first | exact HB.out | apply below_alloc | apply pw_below_drewN | apply below_drew1) | exact HB.out)) hb); have n1_ := Aside0.mk (hbox); have n2_ := Aside0.mk ((by rw [hg]; exact (below_size (by repeat (first | (with_reducible first | exact HB.out | apply below_alloc | apply pw_below_drewN | apply below_drew1) | exact HB.out))) : w.heap.size ≤ gb101)); have n3_ := Aside0.mk ((by rw [hg]; exact (below_size (by repeat (first | (with_reducible first | exact HB.out | apply below_alloc | apply pw_below_drewN | apply below_drew1) | exact HB.out))) : w.heap.size ≤ gb101)); clear HB; have HB := n0_; have BK101 := n1_; have GW101 := n2_; have GE101 := n3_; clear n0_ n1_ n2_ n3_; clear hb hbox hg) | (go_at_call 9; (with_reducible refine (ashlarlaw07_shown.calls  true _ A2.out).mono ?_); rintro e w75 ⟨rfl, hb⟩; have n0_ := Aside0.mk (blk_below (g := gb101) (o := .cells #[.int .i64 a0_0, .string a0_1, .int .i64 a0_2, .slice A0_3 l0_3.length c0_3] 24 (0, 0)) (by (with_reducible repeat (first | refine blk_drewN ?_ _ | refine blk_drew ?_ | refine blk_alloc ?_ _)); exact BK101.out) hb); have n1_ := Aside0.mk (below_step (by repeat (first | (with_reducible first | exact HB.out | apply below_alloc | apply pw_below_drewN | apply below_drew1 | refine below_set ?_ GE101.out) | exact HB.out)) hb); clear BK101; clear HB; have BK101 := n0_; have HB := n1_; clear n0_ n1_; (try clear hb); (try clear hb2); (try clear hk); (try clear hi); have hcz76_0 : w75.cell? ⟨gb101, 0, none⟩ = some (.int .i64 a0_0) := (blk_cell BK101.out 0).trans rfl; have hcz76_1 : w75.cell? ⟨gb101, 1, none⟩ = some (.string a0_1) := (blk_cell BK101.out 1).trans rfl; have hcz76_2 : w75.cell? ⟨gb101, 2, none⟩ = some (.int .i64 a0_2) := (blk_cell BK101.out 2).trans rfl; have hcz76_3 : w75.cell? ⟨gb101, 3, none⟩ = some (.slice A0_3 l0_3.length c0_3) := (blk_cell BK101.out 3).trans rfl; have hfz76_0 := blk_frozen BK101.out 0; have hfz76_1 := blk_frozen BK101.out 1; have hfz76_2 := blk_frozen BK101.out 2; have hfz76_3 := blk_frozen BK101.out 3) | (go_at_call 10; (with_reducible refine (cnf_Clauses.calls a0_0 a0_1 a0_2 (fun k_ => k_ < w.heap.size) _ _ l0_3 t103 t106 t109 t110 _ ?side1 A3.out).mono ?_); (case side1 => exact Kd.V_mk HC0_3.out (Kd.F_below (Kd.C_F k24_heap HR0_3.out) (by repeat (first | (with_reducible first | exact HB.out | apply below_alloc | apply pw_below_drewN | apply below_drew1 | refine below_set ?_ GE101.out) | exact HB.out)))); rintro e w77 ⟨v104, v107, rfl, ho0, ho1, hb⟩; have n0_ := Aside0.mk (Kd.N_lower (Kd.N_mono (ok' := fun k_ => k_ ≠ gb101) ho0 (fun k_ hk_ => Or.elim hk_ (fun hs_ => fun e_ => Nat.not_le.2 hs_ (by rw [e_]; exact GW101.out)) (fun hn_ => (Kd.freshB (g := gb101) (o := .cells #[.int .i64 a0_0, .string a0_1, .int .i64 a0_2, .slice A0_3 l0_3.length c0_3] 24 (0, 0)) (by (with_reducible repeat (first | refine blk_drewN ?_ _ | refine blk_drew ?_ | refine blk_alloc ?_ _)); exact BK101.out) k_ hn_)))) (below_size (by repeat (first | (with_reducible first | exact HB.out | apply below_alloc | apply pw_below_drewN | apply below_drew1 | refine below_set ?_ GE101.out) | exact HB.out)))); have n1_ := Aside0.mk (Kd.V_lower (Kd.V_mono (ok' := fun k_ => some k_ ≠ (v104 : Value).ownBlock ∧ k_ ≠ gb101) ho1 (fun k_ hk_ => ⟨hk_.2, Or.elim hk_.1 (fun hs_ => fun e_ => Nat.not_le.2 hs_ (by rw [e_]; exact GW101.out)) (fun hn_ => (Kd.freshB (g := gb101) (o := .cells #[.int .i64 a0_0, .string a0_1, .int .i64 a0_2, .slice A0_3 l0_3.length c0_3] 24 (0, 0)) (by (with_reducible repeat (first | refine blk_drewN ?_ _ | refine blk_drew ?_ | refine blk_alloc ?_ _)); exact BK101.out) k_ hn_))⟩)) (below_size (by repeat (first | (with_reducible first | exact HB.out | apply below_alloc | apply pw_below_drewN | apply below_drew1 | refine below_set ?_ GE101.out) | exact HB.out)))); have n2_ := Aside0.mk (blk_below (g := gb101) (o := .cells #[.int .i64 a0_0, .string a0_1, .int .i64 a0_2, .slice A0_3 l0_3.length c0_3] 24 (0, 0)) (by (with_reducible repeat (first | refine blk_drewN ?_ _ | refine blk_drew ?_ | refine blk_alloc ?_ _)); exact BK101.out) hb); have n3_ := Aside0.mk (below_step (by repeat (first | (with_reducible first | exact HB.out | apply below_alloc | apply pw_below_drewN | apply below_drew1 | refine below_set ?_ GE101.out) | exact HB.out)) hb); clear BK101; clear HB; have HO105 := n0_; have HO108 := n1_; have BK101 := n2_; have HB := n3_; clear n0_ n1_ n2_ n3_; (try clear hb); (try clear hb2); (try clear hk); (try clear hi); (try clear ho0); (try clear ho1); obtain ⟨Ao78, co78, eo78⟩ := Kd.N_slice HO105.out; subst eo78; obtain ⟨Ao79, co79, eo79⟩ := Kd.V_slice HO108.out; subst eo79))
          repeat (go_quiet (first | ((with_reducible refine gate_dst (N := 1) rfl ?_); (try (refine gate_guard (by rfl) ?_; dsimp only)); refine box_event ?hg (N := 1) ?hd (cs := #[.int .i64 a0_0, .string a0_1, .int .i64 a0_2, .slice A0_3 l0_3.length c0_3]) (t := 24) ?hr ?_; (case hd => rfl); (case hg => rfl); (case hr => first | (go_simp; done) | (go_simp; rfl)); intro gb101 hg w74 hbox hb; have n0_ := Aside0.mk (below_step (by repeat (first | (with_reducible first | exact HB.out | apply below_alloc | apply pw_below_drewN | apply below_drew1) | exact HB.out)) hb); have n1_ := Aside0.mk (hbox); have n2_ := Aside0.mk ((by rw [hg]; exact (below_size (by repeat (first | (with_reducible first | exact HB.out | apply below_alloc | apply pw_below_drewN | apply below_drew1) | exact HB.out))) : w.heap.size ≤ gb101)); have n3_ := Aside0.mk ((by rw [hg]; exact (below_size (by repeat (first | (with_reducible first | exact HB.out | apply below_alloc | apply pw_below_drewN | apply below_drew1) | exact HB.out))) : w.heap.size ≤ gb101)); clear HB; have HB := n0_; have BK101 := n1_; have GW101 := n2_; have GE101 := n3_; clear n0_ n1_ n2_ n3_; clear hb hbox hg) | (go_at_call 9; (with_reducible refine (ashlarlaw07_shown.calls  true _ A2.out).mono ?_); rintro e w75 ⟨rfl, hb⟩; have n0_ := Aside0.mk (blk_below (g := gb101) (o := .cells #[.int .i64 a0_0, .string a0_1, .int .i64 a0_2, .slice A0_3 l0_3.length c0_3] 24 (0, 0)) (by (with_reducible repeat (first | refine blk_drewN ?_ _ | refine blk_drew ?_ | refine blk_alloc ?_ _)); exact BK101.out) hb); have n1_ := Aside0.mk (below_step (by repeat (first | (with_reducible first | exact HB.out | apply below_alloc | apply pw_below_drewN | apply below_drew1 | refine below_set ?_ GE101.out) | exact HB.out)) hb); clear BK101; clear HB; have BK101 := n0_; have HB := n1_; clear n0_ n1_; (try clear hb); (try clear hb2); (try clear hk); (try clear hi); have hcz76_0 : w75.cell? ⟨gb101, 0, none⟩ = some (.int .i64 a0_0) := (blk_cell BK101.out 0).trans rfl; have hcz76_1 : w75.cell? ⟨gb101, 1, none⟩ = some (.string a0_1) := (blk_cell BK101.out 1).trans rfl; have hcz76_2 : w75.cell? ⟨gb101, 2, none⟩ = some (.int .i64 a0_2) := (blk_cell BK101.out 2).trans rfl; have hcz76_3 : w75.cell? ⟨gb101, 3, none⟩ = some (.slice A0_3 l0_3.length c0_3) := (blk_cell BK101.out 3).trans rfl; have hfz76_0 := blk_frozen BK101.out 0; have hfz76_1 := blk_frozen BK101.out 1; have hfz76_2 := blk_frozen BK101.out 2; have hfz76_3 := blk_frozen BK101.out 3) | (go_at_call 10; (with_reducible refine (cnf_Clauses.calls a0_0 a0_1 a0_2 (fun k_ => k_ < w.heap.size) _ _ l0_3 t103 t106 t109 t110 _ ?side1 A3.out).mono ?_); (case side1 => exact Kd.V_mk HC0_3.out (Kd.F_below (Kd.C_F k24_heap HR0_3.out) (by repeat (first | (with_reducible first | exact HB.out | apply below_alloc | apply pw_below_drewN | apply below_drew1 | refine below_set ?_ GE101.out) | exact HB.out)))); rintro e w77 ⟨v104, v107, rfl, ho0, ho1, hb⟩; have n0_ := Aside0.mk (Kd.N_lower (Kd.N_mono (ok' := fun k_ => k_ ≠ gb101) ho0 (fun k_ hk_ => Or.elim hk_ (fun hs_ => fun e_ => Nat.not_le.2 hs_ (by rw [e_]; exact GW101.out)) (fun hn_ => (Kd.freshB (g := gb101) (o := .cells #[.int .i64 a0_0, .string a0_1, .int .i64 a0_2, .slice A0_3 l0_3.length c0_3] 24 (0, 0)) (by (with_reducible repeat (first | refine blk_drewN ?_ _ | refine blk_drew ?_ | refine blk_alloc ?_ _)); exact BK101.out) k_ hn_)))) (below_size (by repeat (first | (with_reducible first | exact HB.out | apply below_alloc | apply pw_below_drewN | apply below_drew1 | refine below_set ?_ GE101.out) | exact HB.out)))); have n1_ := Aside0.mk (Kd.V_lower (Kd.V_mono (ok' := fun k_ => some k_ ≠ (v104 : Value).ownBlock ∧ k_ ≠ gb101) ho1 (fun k_ hk_ => ⟨hk_.2, Or.elim hk_.1 (fun hs_ => fun e_ => Nat.not_le.2 hs_ (by rw [e_]; exact GW101.out)) (fun hn_ => (Kd.freshB (g := gb101) (o := .cells #[.int .i64 a0_0, .string a0_1, .int .i64 a0_2, .slice A0_3 l0_3.length c0_3] 24 (0, 0)) (by (with_reducible repeat (first | refine blk_drewN ?_ _ | refine blk_drew ?_ | refine blk_alloc ?_ _)); exact BK101.out) k_ hn_))⟩)) (below_size (by repeat (first | (with_reducible first | exact HB.out | apply below_alloc | apply pw_below_drewN | apply below_drew1 | refine below_set ?_ GE101.out) | exact HB.out)))); have n2_ := Aside0.mk (blk_below (g := gb101) (o := .cells #[.int .i64 a0_0, .string a0_1, .int .i64 a0_2, .slice A0_3 l0_3.length c0_3] 24 (0, 0)) (by (with_reducible repeat (first | refine blk_drewN ?_ _ | refine blk_drew ?_ | refine blk_alloc ?_ _)); exact BK101.out) hb); have n3_ := Aside0.mk (below_step (by repeat (first | (with_reducible first | exact HB.out | apply below_alloc | apply pw_below_drewN | apply below_drew1 | refine below_set ?_ GE101.out) | exact HB.out)) hb); clear BK101; clear HB; have HO105 := n0_; have HO108 := n1_; have BK101 := n2_; have HB := n3_; clear n0_ n1_ n2_ n3_; (try clear hb); (try clear hb2); (try clear hk); (try clear hi); (try clear ho0); (try clear ho1); obtain ⟨Ao78, co78, eo78⟩ := Kd.N_slice HO105.out; subst eo78; obtain ⟨Ao79, co79, eo79⟩ := Kd.V_slice HO108.out; subst eo79)); try go_wp2_with (first | ((with_reducible refine gate_dst (N := 1) rfl ?_); (try (refine gate_guard (by rfl) ?_; dsimp only)); refine box_event ?hg (N := 1) ?hd (cs := #[.int .i64 a0_0, .string a0_1, .int .i64 a0_2, .slice A0_3 l0_3.length c0_3]) (t := 24) ?hr ?_; (case hd => rfl); (case hg => rfl); (case hr => first | (go_simp; done) | (go_simp; rfl)); intro gb101 hg w74 hbox hb; have n0_ := Aside0.mk (below_step (by repeat (first | (with_reducible first | exact HB.out | apply below_alloc | apply pw_below_drewN | apply below_drew1) | exact HB.out)) hb); have n1_ := Aside0.mk (hbox); have n2_ := Aside0.mk ((by rw [hg]; exact (below_size (by repeat (first | (with_reducible first | exact HB.out | apply below_alloc | apply pw_below_drewN | apply below_drew1) | exact HB.out))) : w.heap.size ≤ gb101)); have n3_ := Aside0.mk ((by rw [hg]; exact (below_size (by repeat (first | (with_reducible first | exact HB.out | apply below_alloc | apply pw_below_drewN | apply below_drew1) | exact HB.out))) : w.heap.size ≤ gb101)); clear HB; have HB := n0_; have BK101 := n1_; have GW101 := n2_; have GE101 := n3_; clear n0_ n1_ n2_ n3_; clear hb hbox hg) | (go_at_call 9; (with_reducible refine (ashlarlaw07_shown.calls  true _ A2.out).mono ?_); rintro e w75 ⟨rfl, hb⟩; have n0_ := Aside0.mk (blk_below (g := gb101) (o := .cells #[.int .i64 a0_0, .string a0_1, .int .i64 a0_2, .slice A0_3 l0_3.length c0_3] 24 (0, 0)) (by (with_reducible repeat (first | refine blk_drewN ?_ _ | refine blk_drew ?_ | refine blk_alloc ?_ _)); exact BK101.out) hb); have n1_ := Aside0.mk (below_step (by repeat (first | (with_reducible first | exact HB.out | apply below_alloc | apply pw_below_drewN | apply below_drew1 | refine below_set ?_ GE101.out) | exact HB.out)) hb); clear BK101; clear HB; have BK101 := n0_; have HB := n1_; clear n0_ n1_; (try clear hb); (try clear hb2); (try clear hk); (try clear hi); have hcz76_0 : w75.cell? ⟨gb101, 0, none⟩ = some (.int .i64 a0_0) := (blk_cell BK101.out 0).trans rfl; have hcz76_1 : w75.cell? ⟨gb101, 1, none⟩ = some (.string a0_1) := (blk_cell BK101.out 1).trans rfl; have hcz76_2 : w75.cell? ⟨gb101, 2, none⟩ = some (.int .i64 a0_2) := (blk_cell BK101.out 2).trans rfl; have hcz76_3 : w75.cell? ⟨gb101, 3, none⟩ = some (.slice A0_3 l0_3.length c0_3) := (blk_cell BK101.out 3).trans rfl; have hfz76_0 := blk_frozen BK101.out 0; have hfz76_1 := blk_frozen BK101.out 1; have hfz76_2 := blk_frozen BK101.out 2; have hfz76_3 := blk_frozen BK101.out 3) | (go_at_call 10; (with_reducible refine (cnf_Clauses.calls a0_0 a0_1 a0_2 (fun k_ => k_ < w.heap.size) _ _ l0_3 t103 t106 t109 t110 _ ?side1 A3.out).mono ?_); (case side1 => exact Kd.V_mk HC0_3.out (Kd.F_below (Kd.C_F k24_heap HR0_3.out) (by repeat (first | (with_reducible first | exact HB.out | apply below_alloc | apply pw_below_drewN | apply below_drew1 | refine below_set ?_ GE101.out) | exact HB.out)))); rintro e w77 ⟨v104, v107, rfl, ho0, ho1, hb⟩; have n0_ := Aside0.mk (Kd.N_lower (Kd.N_mono (ok' := fun k_ => k_ ≠ gb101) ho0 (fun k_ hk_ => Or.elim hk_ (fun hs_ => fun e_ => Nat.not_le.2 hs_ (by rw [e_]; exact GW101.out)) (fun hn_ => (Kd.freshB (g := gb101) (o := .cells #[.int .i64 a0_0, .string a0_1, .int .i64 a0_2, .slice A0_3 l0_3.length c0_3] 24 (0, 0)) (by (with_reducible repeat (first | refine blk_drewN ?_ _ | refine blk_drew ?_ | refine blk_alloc ?_ _)); exact BK101.out) k_ hn_)))) (below_size (by repeat (first | (with_reducible first | exact HB.out | apply below_alloc | apply pw_below_drewN | apply below_drew1 | refine below_set ?_ GE101.out) | exact HB.out)))); have n1_ := Aside0.mk (Kd.V_lower (Kd.V_mono (ok' := fun k_ => some k_ ≠ (v104 : Value).ownBlock ∧ k_ ≠ gb101) ho1 (fun k_ hk_ => ⟨hk_.2, Or.elim hk_.1 (fun hs_ => fun e_ => Nat.not_le.2 hs_ (by rw [e_]; exact GW101.out)) (fun hn_ => (Kd.freshB (g := gb101) (o := .cells #[.int .i64 a0_0, .string a0_1, .int .i64 a0_2, .slice A0_3 l0_3.length c0_3] 24 (0, 0)) (by (with_reducible repeat (first | refine blk_drewN ?_ _ | refine blk_drew ?_ | refine blk_alloc ?_ _)); exact BK101.out) k_ hn_))⟩)) (below_size (by repeat (first | (with_reducible first | exact HB.out | apply below_alloc | apply pw_below_drewN | apply below_drew1 | refine below_set ?_ GE101.out) | exact HB.out)))); have n2_ := Aside0.mk (blk_below (g := gb101) (o := .cells #[.int .i64 a0_0, .string a0_1, .int .i64 a0_2, .slice A0_3 l0_3.length c0_3] 24 (0, 0)) (by (with_reducible repeat (first | refine blk_drewN ?_ _ | refine blk_drew ?_ | refine blk_alloc ?_ _)); exact BK101.out) hb); have n3_ := Aside0.mk (below_step (by repeat (first | (with_reducible first | exact HB.out | apply below_alloc | apply pw_below_drewN | apply below_drew1 | refine below_set ?_ GE101.out) | exact HB.out)) hb); clear BK101; clear HB; have HO105 := n0_; have HO108 := n1_; have BK101 := n2_; have HB := n3_; clear n0_ n1_ n2_ n3_; (try clear hb); (try clear hb2); (try clear hk); (try clear hi); (try clear ho0); (try clear ho1); obtain ⟨Ao78, co78, eo78⟩ := Kd.N_slice HO105.out; subst eo78; obtain ⟨Ao79, co79, eo79⟩ := Kd.V_slice HO108.out; subst eo79)))
          go_ret
          exact ⟨by first | rfl | (simp [errW_none, errW_some] <;> rfl) | (simp [*, errW_none, errW_some] <;> rfl), by repeat (first | (with_reducible first | exact HB.out | apply below_alloc | apply pw_below_drewN | apply below_drew1 | refine below_set ?_ GE101.out) | exact HB.out)⟩
        · rw [if_neg c73] at H
          have c73b0 : ((t106.length : Int) == 0) = false := beq_eq_false_iff_ne.mpr c73
          have c73b1 : ((t106.length : Int) != 0) = true := bne_iff_ne.mpr c73
          have c73b2 : ¬ (t106 = []) := fun h_ => c73 (by rw [h_]; rfl)
          exact absurd (Option.some.inj H) (by rw [hr]; decide)
      · rw [if_neg c72] at H
        have c72b0 : ((t103.length : Int) == 0) = false := beq_eq_false_iff_ne.mpr c72
        have c72b1 : ((t103.length : Int) != 0) = true := bne_iff_ne.mpr c72
        have c72b2 : ¬ (t103 = []) := fun h_ => c72 (by rw [h_]; rfl)
        exact absurd (Option.some.inj H) (by rw [hr]; decide)
    · replace c71 := Bool.eq_false_iff.mpr c71
      subst c71
      have H1 : (some false) = some r := by rw [if_neg (show ¬ (false = true) by decide)] at H; exact H
      clear H
      have H := H1
      clear H1
      exact absurd (Option.some.inj H) (by rw [hr]; decide)
end Go.Proofs.YthckboogibhjaaaDoor.PCnfAtoms
