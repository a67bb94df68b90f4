-- Written by a program of this session (myprint.py) out of the translation, with contracts of this session given.
import Derived.Test.YtmcfcmijopbinaaPWholeMorex0
namespace Go.Proofs
theorem Z110 {p : Prop} (h : p := by first | rfl | (simp; done) | (simp [*]; done)) : p := h
theorem Z111 {p : Prop} (h : p := by first | (with_reducible assumption) | assumption) : p := h
theorem Z112 {p : Prop} (h : p := by repeat (first | (with_reducible first | exact HB.out | apply below_alloc | apply pw_below_drewN | apply below_drew1) | exact HB.out)) : p := h
theorem Z113 {p : Prop} (h : p := by repeat (first | (with_reducible first | exact HB.out | apply below_alloc | apply pw_below_drewN | apply below_drew1 | refine below_set ?_ GE102.out) | exact HB.out)) : p := h
theorem Z114 {p : Prop} (h : p := by (with_reducible repeat (first | apply Kd.R_alloc | apply Kd.R_drewN | apply Kd.R_drew)); exact HO_103000.out) : p := h
theorem Z115 {p : Prop} (h : p := by (with_reducible repeat (first | apply Kd.S_alloc | apply Kd.S_drewN | apply Kd.S_drew)); exact Kd.S_mono HO_5.out (fun _ hk => ⟨hk.2, hk.1⟩)) : p := h
theorem Z116 {p : Prop} (h : p := by (with_reducible repeat (first | refine blk_drewN ?_ _ | refine blk_drew ?_ | refine blk_alloc ?_ _)); exact BK102.out) : p := h
theorem Z117 {p : Prop} (h : p := by (with_reducible repeat (first | apply Kd.N_alloc | apply Kd.N_drewN | apply Kd.N_drew)); exact HO_5.out) : p := h
theorem Z118 {p : Prop} (h : p := by (with_reducible repeat (first | apply Kd.R_alloc | apply Kd.R_drewN | apply Kd.R_drew)); exact HO117.out) : p := h
theorem Z119 {p : Prop} (h : p := by (with_reducible repeat (first | apply Kd.R_alloc | apply Kd.R_drewN | apply Kd.R_drew)); exact (Kd.R_mono (Kd.R_far (p := ⟨gb118, 1, none⟩) (Kd.R_far (p := ⟨gb118, 0, none⟩) (Kd.R_types HO117.out BK118.out (by decide)) (fun _ hk => hk.2) (.slice Ao14 y115.length co14)) (fun _ hk => hk.2) (.int .i64 (wrap64 (-a1)))) (fun _ h_ => h_.1))) : p := h
theorem Z11a {p : Prop} (h : p := by repeat (first | (with_reducible first | exact HB.out | apply below_alloc | apply pw_below_drewN | apply below_drew1 | refine below_set ?_ GE118.out) | exact HB.out)) : p := h
theorem Z11b {p : Prop} (h : p := by (with_reducible repeat (first | apply Kd.R_alloc | apply Kd.R_drewN | apply Kd.R_drew)); exact HO121.out) : p := h
theorem Z11c {p : Prop} (h : p := by (with_reducible repeat (first | refine blk_drewN ?_ _ | refine blk_drew ?_ | refine blk_alloc ?_ _)); exact BK118.out) : p := h
theorem Z11d {p : Prop} (h : p := by repeat (first | (with_reducible first | exact HB.out | apply below_alloc | apply pw_below_drewN | apply below_drew1 | refine below_set ?_ GE118.out | refine below_set ?_ GE122.out) | exact HB.out)) : p := h
theorem Z11e {p : Prop} (h : p := by (with_reducible repeat (first | refine blk_drewN ?_ _ | refine blk_drew ?_ | refine blk_alloc ?_ _)); exact BK122.out) : p := h
end Go.Proofs
namespace Go.Proofs.Ytmcfcmijopbinaa.PWholeMore
open Go.RowKit Go.Proofs.Ytmcfcmijopbinaa.Given Go.Proofs.Ytmcfcmijopbinaa.Ln Go.Proofs.YtmcfcmijopbinaaW.PrintWords Go.Proofs.YtmcfcmijopbinaaW.PrintLast Go.Proofs.YtmcfcmijopbinaaW.PrintMore
attribute [local go_sem] max2_int min2_int max_two min_two max_three min_three max_four min_four
set_option linter.unusedVariables false
set_option linter.unusedSimpArgs false
mutual
def ashlarlaw12_small.l0 : Nat → List (S25) → Int → List (S25) → Int → Option ((List (S25)))
 | 0, _, _, _, _ => none
 | k + 1, x0, x1, x5, x6 => if x6 < (x0.length : Int) then (ashlarlaw12_small.j1 k x0 x1 x5 x6 (decide (x6 < 3))) else (ashlarlaw12_small.j1 k x0 x1 x5 x6 false)
def ashlarlaw12_small.j1 : Nat → List (S25) → Int → List (S25) → Int → Bool → Option ((List (S25)))
 | 0, _, _, _, _, _ => none
 | k + 1, x0, x1, x5, x6, x17 => if x17 = true then (if 0 ≤ x6 then (if x6 < (x0.length : Int) then (ashlarlaw12_small.l1 k x0 x1 x5 x6 0 ([] : List Int) (Int.tmod ((rd_T25 x0 x6).f1) 10)) else (none)) else (none)) else (some x5)
def ashlarlaw12_small.l1 : Nat → List (S25) → Int → List (S25) → Int → Int → List Int → Int → Option ((List (S25)))
 | 0, _, _, _, _, _, _, _ => none
 | k + 1, x0, x1, x5, x6, x8, x103000, x103001 => if x8 < x1 then (if 0 ≤ x6 then (if x6 < (x0.length : Int) then (if x8 < (((rd_T25 x0 x6).f0).length : Int) then (if 0 ≤ x8 then (if x103000.length < 17592186044416 then (ashlarlaw12_small.l1 k x0 x1 x5 x6 (wrap64 (x8 + 1)) (x103000 ++ [Int.tmod (rd ((rd_T25 x0 x6).f0) x8) 10]) x103001) else (none)) else (none)) else (if x103000.length < 17592186044416 then (ashlarlaw12_small.l1 k x0 x1 x5 x6 (wrap64 (x8 + 1)) (x103000 ++ [0]) x103001) else (none))) else (none)) else (none)) else (if x5.length < 4398046511104 then (ashlarlaw12_small.l0 k x0 x1 (x5 ++ [(⟨x103000, x103001⟩ : S25)]) (wrap64 (x6 + 1))) else (none))
end
def ashlarlaw12_small.f (k : Nat) (l0 : List (S25)) (a1 : Int) : Option ((List (S25))) := ashlarlaw12_small.l0 k l0 a1 ([] : List (S25)) 0
theorem ashlarlaw12_small.mono_l : ∀ k, (∀ y0 y1 y2 y3, LeO (ashlarlaw12_small.l0 k y0 y1 y2 y3) (ashlarlaw12_small.l0 (k + 1) y0 y1 y2 y3)) ∧ (∀ y0 y1 y2 y3 y4, LeO (ashlarlaw12_small.j1 k y0 y1 y2 y3 y4) (ashlarlaw12_small.j1 (k + 1) y0 y1 y2 y3 y4)) ∧ (∀ y0 y1 y2 y3 y4 y5 y6, LeO (ashlarlaw12_small.l1 k y0 y1 y2 y3 y4 y5 y6) (ashlarlaw12_small.l1 (k + 1) y0 y1 y2 y3 y4 y5 y6))
 | 0 => ⟨fun _ _ _ _ r h => by simp [ashlarlaw12_small.l0] at h, fun _ _ _ _ _ r h => by simp [ashlarlaw12_small.j1] at h, fun _ _ _ _ _ _ _ r h => by simp [ashlarlaw12_small.l1] at h⟩
 | k + 1 => by
  obtain ⟨ih0, ih1, ih2⟩ := ashlarlaw12_small.mono_l k
  refine ⟨?_, ?_, ?_⟩
  ·intro y0 y1 y2 y3
   unfold ashlarlaw12_small.l0
   repeat' first
   | (with_reducible exact ih0 _ _ _ _)
   | (with_reducible exact ih1 _ _ _ _ _)
   | (with_reducible exact ih2 _ _ _ _ _ _ _)
   | (with_reducible exact LeO.refl _)
   | (with_reducible exact LeO.none _)
   | (with_reducible refine LeO.ite ?_ ?_)
   | (with_reducible refine LeO.bind ?_ (fun _ => ?_))
   | exact ih0 _ _ _ _
   | exact ih1 _ _ _ _ _
   | exact ih2 _ _ _ _ _ _ _
   | exact LeO.none _
   | refine LeO.ite ?_ ?_
   | refine LeO.bind ?_ (fun _ => ?_)
  ·intro y0 y1 y2 y3 y4
   unfold ashlarlaw12_small.j1
   repeat' first
   | (with_reducible exact ih0 _ _ _ _)
   | (with_reducible exact ih1 _ _ _ _ _)
   | (with_reducible exact ih2 _ _ _ _ _ _ _)
   | (with_reducible exact LeO.refl _)
   | (with_reducible exact LeO.none _)
   | (with_reducible refine LeO.ite ?_ ?_)
   | (with_reducible refine LeO.bind ?_ (fun _ => ?_))
   | exact ih0 _ _ _ _
   | exact ih1 _ _ _ _ _
   | exact ih2 _ _ _ _ _ _ _
   | exact LeO.none _
   | refine LeO.ite ?_ ?_
   | refine LeO.bind ?_ (fun _ => ?_)
  ·intro y0 y1 y2 y3 y4 y5 y6
   unfold ashlarlaw12_small.l1
   repeat' first
   | (with_reducible exact ih0 _ _ _ _)
   | (with_reducible exact ih1 _ _ _ _ _)
   | (with_reducible exact ih2 _ _ _ _ _ _ _)
   | (with_reducible exact LeO.refl _)
   | (with_reducible exact LeO.none _)
   | (with_reducible refine LeO.ite ?_ ?_)
   | (with_reducible refine LeO.bind ?_ (fun _ => ?_))
   | exact ih0 _ _ _ _
   | exact ih1 _ _ _ _ _
   | exact ih2 _ _ _ _ _ _ _
   | exact LeO.none _
   | refine LeO.ite ?_ ?_
   | refine LeO.bind ?_ (fun _ => ?_)
theorem ashlarlaw12_small.mono : ∀ a0 a1 k, LeO (ashlarlaw12_small.f k a0 a1) (ashlarlaw12_small.f (k + 1) a0 a1) := by
 intro a0 a1 k
 obtain ⟨ih0, ih1, ih2⟩ := ashlarlaw12_small.mono_l k
 unfold ashlarlaw12_small.f
 repeat' first
   | (with_reducible exact ih0 _ _ _ _)
   | (with_reducible exact ih1 _ _ _ _ _)
   | (with_reducible exact ih2 _ _ _ _ _ _ _)
   | (with_reducible exact LeO.refl _)
   | (with_reducible exact LeO.none _)
   | (with_reducible refine LeO.ite ?_ ?_)
   | (with_reducible refine LeO.bind ?_ (fun _ => ?_))
   | exact ih0 _ _ _ _
   | exact ih1 _ _ _ _ _
   | exact ih2 _ _ _ _ _ _ _
   | exact LeO.none _
   | refine LeO.ite ?_ ?_
   | refine LeO.bind ?_ (fun _ => ?_)
set_option maxHeartbeats 8000000 in
set_option maxRecDepth 100000 in
theorem ashlarlaw12_small.calls (k : Nat) (A0 : Option Addr) (c0 : Nat) (l0 : List (S25)) (a1 : Int) (r : List (S25)) (w : World) (hr0 : Kd.C k25 w A0 l0.length l0) (hc0 : l0.length ≤ c0) (h : ashlarlaw12_small.f k l0 a1 = some r) :
  Calls Try.prog 7 #[.slice A0 l0.length c0, .int .i64 a1] w fun e w' => ∃ v0_ : Value, e = .returned (v0_) ∧ Kd.S k25 25 w' w.heap.size (fun _ => True) v0_ r ∧ Below w.heap.size w w' := by
 have hu25 := Try.underlying25
 have HR0 := Aside0.mk hr0
 have HC0 := Aside0.mk hc0
 clear hr0 hc0
 have HB := Aside0.mk (Below.refl w.heap.size w)
 have H : (ashlarlaw12_small.l0 k l0 a1 ([] : List (S25)) 0) = some r := h
 clear h
 have H' := Aside0.mk H
 clear H
 go_enter Try.func7, Try.ntmps7
 go_wp2
 go_loopg [5, 6] k (fun kq v5 v6 w' => ∃ (x5_1 : List (S25)) (x6_1 : Int), v6 = .int .i64 x6_1 ∧ Aside0 (ashlarlaw12_small.l0 kq l0 a1 x5_1 x6_1 = some r) ∧ Aside0 (kq ≤ k) ∧ Aside0 (Kd.S k25 25 w' w.heap.size (fun _ => True) v5 x5_1) ∧ Aside0 (Below w.heap.size w w'))
 case atStart => exact ⟨(([] : List (S25))), (0), Z110, H', ⟨Nat.le_refl _⟩, ⟨by first | exact Kd.S_nil _ _ _ _ _ | exact Kd.N_nil _ _ _ _ _ | exact Kd.V_nil _ _ _ _ _ | exact Kd.Q_nil _ _ _ _ _ | exact Kd.R_nil _ _ _ _ _⟩, ⟨by repeat (first | (with_reducible first | exact HB.out | apply below_alloc | apply pw_below_drewN | apply below_drew1) | exact HB.out)⟩⟩
 case round =>
  clear H'
  try clear p2
  obtain ⟨x5_1, x6_1, rfl, HA, HK1, HO_5, HB⟩ := hrel
  cases gk with
  | zero => exact absurd HA.out (by simp [ashlarlaw12_small.l0])
  | succ k1 =>
   have H := HA.out
   clear HA
   simp only [ashlarlaw12_small.l0] at H
   have HC3 := Aside0.mk H
   clear H
   go_upto_region 3 with (fail)
   go_cut [17] (fun v17 wc => ∃ (kq : Nat) (x17_2 : Bool), v17 = .bool x17_2 ∧ Aside0 (ashlarlaw12_small.j1 kq l0 a1 x5_1 x6_1 x17_2 = some r) ∧ Aside0 (kq ≤ k1) ∧ Aside0 (Kd.S k25 25 wc w.heap.size (fun _ => True) u5 x5_1) ∧ Aside0 (Below w.heap.size w wc))
   case first =>
    have H := HC3.out
    clear HC3
    by_cases c4 : x6_1 < (l0.length : Int)
    ·rw [if_pos c4] at H
     have c4b0 : decide (x6_1 < (l0.length : Int)) = true := decide_eq_true c4
     clear c4
     (first | rw [c4b0] | (simp only [i64_w, i32_w]; rw [c4b0]) | skip)
     have H' := Aside0.mk H
     clear H
     go_wp2
     go_meet
     case rel => exact ⟨_, (decide (x6_1 < 3)), Z110, H', ⟨by have := HK1.out; first | omega | exact Nat.le_refl _⟩, ⟨by (with_reducible repeat (first | apply Kd.S_alloc | apply Kd.S_drewN | apply Kd.S_drew)); exact HO_5.out⟩, ⟨by repeat (first | (with_reducible first | exact HB.out | apply below_alloc | apply pw_below_drewN | apply below_drew1) | exact HB.out)⟩⟩
    ·rw [if_neg c4] at H
     have c4b0 : decide (x6_1 < (l0.length : Int)) = false := decide_eq_false c4
     clear c4
     (first | rw [c4b0] | (simp only [i64_w, i32_w]; rw [c4b0]) | skip)
     have H' := Aside0.mk H
     clear H
     go_wp2
     go_meet
     case rel => exact ⟨_, (false), Z110, H', ⟨by have := HK1.out; first | omega | exact Nat.le_refl _⟩, ⟨by (with_reducible repeat (first | apply Kd.S_alloc | apply Kd.S_drewN | apply Kd.S_drew)); exact HO_5.out⟩, ⟨by repeat (first | (with_reducible first | exact HB.out | apply below_alloc | apply pw_below_drewN | apply below_drew1) | exact HB.out)⟩⟩
   case rest =>
    clear HC3
    try clear p2
    try clear c4
    try clear c4b0
    try clear p2
    obtain ⟨kq, x17_2, rfl, HA, HJ2, HO_5, HB⟩ := hcut
    cases kq with
    | zero => exact absurd HA.out (by simp [ashlarlaw12_small.j1])
    | succ kj2 =>
     have H := HA.out
     clear HA
     simp only [ashlarlaw12_small.j1] at H
     by_cases c5 : x17_2 = true
     ·subst c5
      have H1 : (if 0 ≤ x6_1 then (if x6_1 < (l0.length : Int) then (ashlarlaw12_small.l1 kj2 l0 a1 x5_1 x6_1 0 ([] : List Int) (Int.tmod ((rd_T25 l0 x6_1).f1) 10)) else (none)) else (none)) = some r := by rw [if_pos rfl] at H; exact H
      clear H
      have H := H1
      clear H1
      by_cases c6 : 0 ≤ x6_1
      ·rw [if_pos c6] at H
       have c6b0 : decide (0 ≤ x6_1) = true := decide_eq_true c6
       clear c6
       by_cases c7 : x6_1 < (l0.length : Int)
       ·rw [if_pos c7] at H
        have c7b0 : decide (x6_1 < (l0.length : Int)) = true := decide_eq_true c7
        clear c7
        have H' := Aside0.mk H
        clear H
        have p101 : 0 ≤ (x6_1 : Int) := of_decide_eq_true Z111
        have q101 : x6_1 < (l0.length : Int) := of_decide_eq_true Z111
        obtain ⟨ad101, A101_0, c101_0, e101, hx101_0, hx101_1, hl101_0, hi101_0⟩ := at_T25 HR0.out x6_1 p101 q101
        cases e101
        replace hx101_0 := (HB.out.cell (World.block_lt_of_cell? w _ hx101_0)).trans hx101_0
        replace hx101_1 := (HB.out.cell (World.block_lt_of_cell? w _ hx101_1)).trans hx101_1
        have HR101_0 := Aside0.mk hi101_0
        have HC101_0 := Aside0.mk hl101_0
        clear hi101_0 hl101_0
        replace p101 := eq_true p101
        replace q101 := eq_true q101
        go_wp2_with (first | ((with_reducible refine gate_dst (N := 7) rfl ?_); refine box_event ?hg (N := 7) ?hd (cs := #[.slice none 0 0, .int .i64 0]) (t := 25) ?hr ?_; (case hd => rfl); (case hg => rfl); (case hr => first | (go_simp; done) | (go_simp; rfl)); intro gb102 hg w8 hbox hb; have n0_ := Aside0.mk (Kd.S_below (Kd.S_elderB (by (with_reducible repeat (first | apply Kd.S_alloc | apply Kd.S_drewN | apply Kd.S_drew)); exact HO_5.out) gb102 (Nat.le_of_eq hg.symm)) hb); have n1_ := Aside0.mk (below_step Z112 hb); have n2_ := Aside0.mk (hbox); have n3_ := Aside0.mk ((by rw [hg]; exact (below_size Z112) : w.heap.size ≤ gb102)); have n4_ := Aside0.mk ((by rw [hg]; exact (below_size Z112) : w.heap.size ≤ gb102)); clear HO_5; clear HB; have HO_5 := n0_; have HB := n1_; have BK102 := n2_; have GW102 := n3_; have GE102 := n4_; clear n0_ n1_ n2_ n3_ n4_; clear hb hbox hg; have hcz9_0 : w8.cell? ⟨gb102, 0, none⟩ = some (.slice none 0 0) := (blk_cell BK102.out 0).trans rfl; have hcz9_1 : w8.cell? ⟨gb102, 1, none⟩ = some (.int .i64 0) := (blk_cell BK102.out 1).trans rfl; have hfz9_0 := blk_frozen BK102.out 0; have hfz9_1 := blk_frozen BK102.out 1))
        go_loopg [8] kj2 (fun kq v8 w' => ∃ (x8_3 : Int) (x103000_3 : List Int) (u103000 : Value), v8 = .int .i64 x8_3 ∧ Aside0 (ashlarlaw12_small.l1 kq l0 a1 x5_1 x6_1 x8_3 x103000_3 (Int.tmod ((rd_T25 l0 x6_1).f1) 10) = some r) ∧ Aside0 (kq ≤ kj2) ∧ Aside0 (Kd.S k25 25 w' w.heap.size (fun k_ => some k_ ≠ (u103000 : Value).ownBlock ∧ k_ ≠ gb102) u5 x5_1) ∧ Aside0 (Kd.R (Kd.int .i64) 2 w' w.heap.size (fun _ => True) u103000 x103000_3) ∧ Aside0 (w'.heap[gb102]? = some (.cells #[u103000, .int .i64 (Int.tmod ((rd_T25 l0 x6_1).f1) 10)] 25 (0, 0))) ∧ Aside0 (Below w.heap.size w w'))
        case atStart => exact ⟨(0), (([] : List Int)), (.slice none 0 0), Z110, H', ⟨Nat.le_refl _⟩, ⟨by (with_reducible repeat (first | apply Kd.S_alloc | apply Kd.S_drewN | apply Kd.S_drew)); exact Kd.S_mono (Kd.S_far (p := ⟨gb102, 1, none⟩) (Kd.S_far (p := ⟨gb102, 0, none⟩) (Kd.S_mono HO_5.out (fun k_ hk => (⟨hk, hk.2⟩ : _ ∧ k_ ≠ gb102))) (fun _ hk => hk.2) (.slice none 0 0)) (fun _ hk => hk.2) (.int .i64 (Int.tmod ((rd_T25 l0 x6_1).f1) 10))) (fun _ hk => ⟨(by simp [Value.ownBlock]), hk.1.2⟩)⟩, ⟨by first | exact Kd.R_nil _ _ _ _ _ | exact Kd.N_nil _ _ _ _ _ | exact Kd.V_nil _ _ _ _ _ | exact Kd.Q_nil _ _ _ _ _ | exact Kd.S_nil _ _ _ _ _⟩, ⟨by (with_reducible repeat (first | refine blk_drewN ?_ _ | refine blk_drew ?_ | refine blk_alloc ?_ _)); refine blk_put (cs := #[.slice none 0 0, .int .i64 0]) ?_ 1 _ rfl; (with_reducible repeat (first | refine blk_drewN ?_ _ | refine blk_drew ?_ | refine blk_alloc ?_ _)); refine blk_put (cs := #[.slice none 0 0, .int .i64 0]) ?_ 0 _ rfl; (with_reducible repeat (first | refine blk_drewN ?_ _ | refine blk_drew ?_ | refine blk_alloc ?_ _)); exact BK102.out⟩, ⟨by repeat (first | (with_reducible first | exact HB.out | apply below_alloc | apply pw_below_drewN | apply below_drew1 | refine below_set ?_ GE102.out) | exact HB.out)⟩⟩
        case round =>
         clear H'
         try clear c1
         try clear p1
         try clear q1
         try clear hx1
         try clear p2
         try clear c4
         try clear c4b0
         try clear c5
         try clear c6
         try clear c6b0
         try clear c7
         try clear c7b0
         try clear hcz9_0
         try clear hcz9_1
         try clear hfz9_0
         try clear hfz9_1
         try clear hx101_0
         try clear hx101_1
         try clear p101
         try clear p2
         try clear q101
         obtain ⟨x8_3, x103000_3, u103000, rfl, HA, HK3, HO_5, HO_103000, BK102, HB⟩ := hrel
         cases gk with
         | zero => exact absurd HA.out (by simp [ashlarlaw12_small.l1])
         | succ k3 =>
          have H := HA.out
          clear HA
          simp only [ashlarlaw12_small.l1] at H
          by_cases c10 : x8_3 < a1
          ·rw [if_pos c10] at H
           have c10b0 : decide (x8_3 < a1) = true := decide_eq_true c10
           clear c10
           by_cases c11 : 0 ≤ x6_1
           ·rw [if_pos c11] at H
            have c11b0 : decide (0 ≤ x6_1) = true := decide_eq_true c11
            clear c11
            by_cases c12 : x6_1 < (l0.length : Int)
            ·rw [if_pos c12] at H
             have c12b0 : decide (x6_1 < (l0.length : Int)) = true := decide_eq_true c12
             clear c12
             by_cases c13 : x8_3 < (((rd_T25 l0 x6_1).f0).length : Int)
             ·rw [if_pos c13] at H
              have c13b0 : decide (x8_3 < (((rd_T25 l0 x6_1).f0).length : Int)) = true := decide_eq_true c13
              clear c13
              by_cases c14 : 0 ≤ x8_3
              ·rw [if_pos c14] at H
               have c14b0 : decide (0 ≤ x8_3) = true := decide_eq_true c14
               clear c14
               by_cases c15 : x103000_3.length < 17592186044416
               ·rw [if_pos c15] at H
                have LMc15 := Aside0.mk c15
                clear c15
                obtain ⟨y106, hy106⟩ : ∃ y_ : List Int, y_ = (x103000_3 ++ [Int.tmod (rd ((rd_T25 l0 x6_1).f0) x8_3) 10]) := ⟨_, rfl⟩
                replace H : (ashlarlaw12_small.l1 k3 l0 a1 x5_1 x6_1 (wrap64 (x8_3 + 1)) y106 (Int.tmod ((rd_T25 l0 x6_1).f1) 10)) = some r := by first | (rw [hy106]; with_reducible exact H) | (have H2_ := (Option.bind_some _ _).symm.trans H; rw [hy106]; with_reducible exact H2_) | (have H2_ := (Option.bind_some _ _).symm.trans H; with_reducible exact H2_) | with_reducible exact H | (rw [hy106]; exact H) | exact H
                have Ny106 := Aside0.mk hy106
                clear hy106
                have H' := Aside0.mk H
                clear H
                have p103 : 0 ≤ (x6_1 : Int) := of_decide_eq_true Z111
                have q103 : x6_1 < (l0.length : Int) := of_decide_eq_true Z111
                obtain ⟨ad103, A103_0, c103_0, e103, hx103_0, hx103_1, hl103_0, hi103_0⟩ := at_T25 HR0.out x6_1 p103 q103
                obtain rfl : ad101 = ad103 := (by injection e103)
                replace hx103_0 := (HB.out.cell (World.block_lt_of_cell? w _ hx103_0)).trans hx103_0
                replace hx103_1 := (HB.out.cell (World.block_lt_of_cell? w _ hx103_1)).trans hx103_1
                have HR103_0 := Aside0.mk hi103_0
                have HC103_0 := Aside0.mk hl103_0
                clear hi103_0 hl103_0
                replace p103 := eq_true p103
                replace q103 := eq_true q103
                have p104 : 0 ≤ (x6_1 : Int) := of_decide_eq_true Z111
                have q104 : x6_1 < (l0.length : Int) := of_decide_eq_true Z111
                obtain ⟨ad104, A104_0, c104_0, e104, hx104_0, hx104_1, hl104_0, hi104_0⟩ := at_T25 HR0.out x6_1 p104 q104
                obtain rfl : ad101 = ad104 := (by injection e104)
                replace hx104_0 := (HB.out.cell (World.block_lt_of_cell? w _ hx104_0)).trans hx104_0
                replace hx104_1 := (HB.out.cell (World.block_lt_of_cell? w _ hx104_1)).trans hx104_1
                have HR104_0 := Aside0.mk hi104_0
                have HC104_0 := Aside0.mk hl104_0
                clear hi104_0 hl104_0
                replace p104 := eq_true p104
                replace q104 := eq_true q104
                have ea_ := Option.some.inj (hx103_0.symm.trans hx104_0)
                injection ea_ with ea_ en_ ec_
                subst ea_
                subst ec_
                clear en_
                have p105 : 0 ≤ (x8_3 : Int) := of_decide_eq_true Z111
                have q105 : x8_3 < (((rd_T25 l0 x6_1).f0).length : Int) := of_decide_eq_true Z111
                obtain ⟨ad105, e105, hx105_0⟩ := Kd.at_int HR104_0.out x8_3 p105 q105
                cases e105
                replace hx105_0 := (HB.out.cell (World.block_lt_of_cell? w _ hx105_0)).trans hx105_0
                replace p105 := eq_true p105
                replace q105 := eq_true q105
                have hcz16_0 : wr.cell? ⟨gb102, 0, none⟩ = some (u103000) := (blk_cell BK102.out 0).trans rfl
                have hcz16_1 : wr.cell? ⟨gb102, 1, none⟩ = some (.int .i64 (Int.tmod ((rd_T25 l0 x6_1).f1) 10)) := (blk_cell BK102.out 1).trans rfl
                have hfz16_0 := blk_frozen BK102.out 0
                have hfz16_1 := blk_frozen BK102.out 1
                go_wp2_with (first | ((with_reducible refine gate_builtin (b := .append) (xs := #[.tmp 50, .tmp 52]) rfl ?_); at_builtin; refine Kd.R_append (Kd.int .i64) (w0 := w) w.heap.size rfl (.tmp 50) (.tmp 52) 23 2 (.int .i64 0) 8 rfl Try.underlying23 info2 rfl (by decide) (by omega) u103000 x103000_3 (Int.tmod (rd ((rd_T25 l0 x6_1).f0) x8_3) 10) [.int .i64 (Int.tmod (rd ((rd_T25 l0 x6_1).f0) x8_3) 10)] (fun _ => True) (fun _ => False) rfl rfl ?aP (fun _ hk => hk.elim) ?aF ?aO ?aB ?aS ?aL ?_; (case aP => exact rfl); (case aB => exact Z113); (case aF => exact (fun _ _ => trivial)); (case aO => exact Z114); (case aS => exact (below_size Z113)); (case aL => have := LMc15.out; omega); intro v107 w17 ho hb hg hat; rw [← Ny106.out] at ho; have n0_ := Aside0.mk (Kd.S_after (ok := (fun k_ => k_ ≠ gb102)) Z115 hg hat); have n1_ := Aside0.mk (blk_grown (g := gb102) (o := .cells #[u103000, .int .i64 (Int.tmod ((rd_T25 l0 x6_1).f1) 10)] 25 (0, 0)) Z116 hg (Kd.R_ne HO_103000.out BK102.out (by decide))); have n2_ := Aside0.mk (hb); have n3_ := Aside0.mk (ho); clear HO_5; clear BK102; clear HB; clear HO_103000; have HO_5 := n0_; have BK102 := n1_; have HB := n2_; have HO108 := n3_; clear n0_ n1_ n2_ n3_; clear ho hb hg hat; obtain ⟨Ao18, co18, eo18⟩ := Kd.R_slice HO108.out; subst eo18; have hcz19_0 : w17.cell? ⟨gb102, 0, none⟩ = some (u103000) := (blk_cell BK102.out 0).trans rfl; have hcz19_1 : w17.cell? ⟨gb102, 1, none⟩ = some (.int .i64 (Int.tmod ((rd_T25 l0 x6_1).f1) 10)) := (blk_cell BK102.out 1).trans rfl; have hfz19_0 := blk_frozen BK102.out 0; have hfz19_1 := blk_frozen BK102.out 1))
                go_roundg k3
                case measure => have := HK1.out; have := HJ2.out; have := HK3.out; omega
                case rel => exact ⟨(wrap64 (x8_3 + 1)), (y106), (.slice Ao18 y106.length co18), Z110, H', ⟨by have := HK1.out; have := HJ2.out; have := HK3.out; omega⟩, ⟨by (with_reducible repeat (first | apply Kd.S_alloc | apply Kd.S_drewN | apply Kd.S_drew)); exact Kd.S_mono (Kd.S_far (p := ⟨gb102, 0, none⟩) (Kd.S_mono HO_5.out (fun k_ hk => (⟨hk, hk.1⟩ : _ ∧ k_ ≠ gb102))) (fun _ hk => hk.2) (.slice Ao18 y106.length co18)) (fun _ hk => ⟨hk.1.2, hk.1.1⟩)⟩, ⟨by (with_reducible repeat (first | apply Kd.R_alloc | apply Kd.R_drewN | apply Kd.R_drew)); exact Kd.R_mono (Kd.R_far (p := ⟨gb102, 0, none⟩) (Kd.R_types HO108.out BK102.out (by decide)) (fun _ hk => hk.2) (.slice Ao18 y106.length co18)) (fun _ hk => trivial)⟩, ⟨by (with_reducible repeat (first | refine blk_drewN ?_ _ | refine blk_drew ?_ | refine blk_alloc ?_ _)); refine blk_put (cs := #[u103000, .int .i64 (Int.tmod ((rd_T25 l0 x6_1).f1) 10)]) ?_ 0 _ rfl; (with_reducible repeat (first | refine blk_drewN ?_ _ | refine blk_drew ?_ | refine blk_alloc ?_ _)); exact BK102.out⟩, ⟨by repeat (first | (with_reducible first | exact HB.out | apply below_alloc | apply pw_below_drewN | apply below_drew1 | refine below_set ?_ GE102.out) | exact HB.out)⟩⟩
               ·rw [if_neg c15] at H
                exact absurd H (by simp)
              ·rw [if_neg c14] at H
               exact absurd H (by simp)
             ·rw [if_neg c13] at H
              have c13b0 : decide (x8_3 < (((rd_T25 l0 x6_1).f0).length : Int)) = false := decide_eq_false c13
              clear c13
              by_cases c20 : x103000_3.length < 17592186044416
              ·rw [if_pos c20] at H
               have LMc20 := Aside0.mk c20
               clear c20
               obtain ⟨y109, hy109⟩ : ∃ y_ : List Int, y_ = (x103000_3 ++ [0]) := ⟨_, rfl⟩
               replace H : (ashlarlaw12_small.l1 k3 l0 a1 x5_1 x6_1 (wrap64 (x8_3 + 1)) y109 (Int.tmod ((rd_T25 l0 x6_1).f1) 10)) = some r := by first | (rw [hy109]; with_reducible exact H) | (have H2_ := (Option.bind_some _ _).symm.trans H; rw [hy109]; with_reducible exact H2_) | (have H2_ := (Option.bind_some _ _).symm.trans H; with_reducible exact H2_) | with_reducible exact H | (rw [hy109]; exact H) | exact H
               have Ny109 := Aside0.mk hy109
               clear hy109
               have H' := Aside0.mk H
               clear H
               have p103 : 0 ≤ (x6_1 : Int) := of_decide_eq_true Z111
               have q103 : x6_1 < (l0.length : Int) := of_decide_eq_true Z111
               obtain ⟨ad103, A103_0, c103_0, e103, hx103_0, hx103_1, hl103_0, hi103_0⟩ := at_T25 HR0.out x6_1 p103 q103
               obtain rfl : ad101 = ad103 := (by injection e103)
               replace hx103_0 := (HB.out.cell (World.block_lt_of_cell? w _ hx103_0)).trans hx103_0
               replace hx103_1 := (HB.out.cell (World.block_lt_of_cell? w _ hx103_1)).trans hx103_1
               have HR103_0 := Aside0.mk hi103_0
               have HC103_0 := Aside0.mk hl103_0
               clear hi103_0 hl103_0
               replace p103 := eq_true p103
               replace q103 := eq_true q103
               have hcz21_0 : wr.cell? ⟨gb102, 0, none⟩ = some (u103000) := (blk_cell BK102.out 0).trans rfl
               have hcz21_1 : wr.cell? ⟨gb102, 1, none⟩ = some (.int .i64 (Int.tmod ((rd_T25 l0 x6_1).f1) 10)) := (blk_cell BK102.out 1).trans rfl
               have hfz21_0 := blk_frozen BK102.out 0
               have hfz21_1 := blk_frozen BK102.out 1
               go_wp2_with (first | ((with_reducible refine gate_builtin (b := .append) (xs := #[.tmp 50, .tmp 52]) rfl ?_); at_builtin; refine Kd.R_append (Kd.int .i64) (w0 := w) w.heap.size rfl (.tmp 50) (.tmp 52) 23 2 (.int .i64 0) 8 rfl Try.underlying23 info2 rfl (by decide) (by omega) u103000 x103000_3 0 [.int .i64 0] (fun _ => True) (fun _ => False) rfl rfl ?aP (fun _ hk => hk.elim) ?aF ?aO ?aB ?aS ?aL ?_; (case aP => exact rfl); (case aB => exact Z113); (case aF => exact (fun _ _ => trivial)); (case aO => exact Z114); (case aS => exact (below_size Z113)); (case aL => have := LMc20.out; omega); intro v110 w22 ho hb hg hat; rw [← Ny109.out] at ho; have n0_ := Aside0.mk (Kd.S_after (ok := (fun k_ => k_ ≠ gb102)) Z115 hg hat); have n1_ := Aside0.mk (blk_grown (g := gb102) (o := .cells #[u103000, .int .i64 (Int.tmod ((rd_T25 l0 x6_1).f1) 10)] 25 (0, 0)) Z116 hg (Kd.R_ne HO_103000.out BK102.out (by decide))); have n2_ := Aside0.mk (hb); have n3_ := Aside0.mk (ho); clear HO_5; clear BK102; clear HB; clear HO_103000; have HO_5 := n0_; have BK102 := n1_; have HB := n2_; have HO111 := n3_; clear n0_ n1_ n2_ n3_; clear ho hb hg hat; obtain ⟨Ao23, co23, eo23⟩ := Kd.R_slice HO111.out; subst eo23; have hcz24_0 : w22.cell? ⟨gb102, 0, none⟩ = some (u103000) := (blk_cell BK102.out 0).trans rfl; have hcz24_1 : w22.cell? ⟨gb102, 1, none⟩ = some (.int .i64 (Int.tmod ((rd_T25 l0 x6_1).f1) 10)) := (blk_cell BK102.out 1).trans rfl; have hfz24_0 := blk_frozen BK102.out 0; have hfz24_1 := blk_frozen BK102.out 1))
               go_roundg k3
               case measure => have := HK1.out; have := HJ2.out; have := HK3.out; omega
               case rel => exact ⟨(wrap64 (x8_3 + 1)), (y109), (.slice Ao23 y109.length co23), Z110, H', ⟨by have := HK1.out; have := HJ2.out; have := HK3.out; omega⟩, ⟨by (with_reducible repeat (first | apply Kd.S_alloc | apply Kd.S_drewN | apply Kd.S_drew)); exact Kd.S_mono (Kd.S_far (p := ⟨gb102, 0, none⟩) (Kd.S_mono HO_5.out (fun k_ hk => (⟨hk, hk.1⟩ : _ ∧ k_ ≠ gb102))) (fun _ hk => hk.2) (.slice Ao23 y109.length co23)) (fun _ hk => ⟨hk.1.2, hk.1.1⟩)⟩, ⟨by (with_reducible repeat (first | apply Kd.R_alloc | apply Kd.R_drewN | apply Kd.R_drew)); exact Kd.R_mono (Kd.R_far (p := ⟨gb102, 0, none⟩) (Kd.R_types HO111.out BK102.out (by decide)) (fun _ hk => hk.2) (.slice Ao23 y109.length co23)) (fun _ hk => trivial)⟩, ⟨by (with_reducible repeat (first | refine blk_drewN ?_ _ | refine blk_drew ?_ | refine blk_alloc ?_ _)); refine blk_put (cs := #[u103000, .int .i64 (Int.tmod ((rd_T25 l0 x6_1).f1) 10)]) ?_ 0 _ rfl; (with_reducible repeat (first | refine blk_drewN ?_ _ | refine blk_drew ?_ | refine blk_alloc ?_ _)); exact BK102.out⟩, ⟨by repeat (first | (with_reducible first | exact HB.out | apply below_alloc | apply pw_below_drewN | apply below_drew1 | refine below_set ?_ GE102.out) | exact HB.out)⟩⟩
              ·rw [if_neg c20] at H
               exact absurd H (by simp)
            ·rw [if_neg c12] at H
             exact absurd H (by simp)
           ·rw [if_neg c11] at H
            exact absurd H (by simp)
          ·rw [if_neg c10] at H
           have c10b0 : decide (x8_3 < a1) = false := decide_eq_false c10
           clear c10
           by_cases c25 : x5_1.length < 4398046511104
           ·rw [if_pos c25] at H
            have LMc25 := Aside0.mk c25
            clear c25
            obtain ⟨y112, hy112⟩ : ∃ y_ : List (S25), y_ = (x5_1 ++ [(⟨x103000_3, (Int.tmod ((rd_T25 l0 x6_1).f1) 10)⟩ : S25)]) := ⟨_, rfl⟩
            replace H : (ashlarlaw12_small.l0 k3 l0 a1 y112 (wrap64 (x6_1 + 1))) = some r := by first | (rw [hy112]; with_reducible exact H) | (have H2_ := (Option.bind_some _ _).symm.trans H; rw [hy112]; with_reducible exact H2_) | (have H2_ := (Option.bind_some _ _).symm.trans H; with_reducible exact H2_) | with_reducible exact H | (rw [hy112]; exact H) | exact H
            have Ny112 := Aside0.mk hy112
            clear hy112
            have H' := Aside0.mk H
            clear H
            have hcz26_0 : wr.cell? ⟨gb102, 0, none⟩ = some (u103000) := (blk_cell BK102.out 0).trans rfl
            have hcz26_1 : wr.cell? ⟨gb102, 1, none⟩ = some (.int .i64 (Int.tmod ((rd_T25 l0 x6_1).f1) 10)) := (blk_cell BK102.out 1).trans rfl
            have hfz26_0 := blk_frozen BK102.out 0
            have hfz26_1 := blk_frozen BK102.out 1
            obtain ⟨Ao28, co28, eo28⟩ := Kd.R_slice HO_103000.out
            subst eo28
            go_wp2_with (first | ((with_reducible refine gate_builtin (b := .append) (xs := #[.tmp 55, .tmp 57]) rfl ?_); at_builtin; refine Kd.S_append k25 (w0 := w) w.heap.size rfl (.tmp 55) (.tmp 57) 22 25 (.agg #[(.slice none 0 0), (.int .i64 0)]) 32 rfl Try.underlying22 info25 rfl (by decide) (by omega) u5 x5_1 (⟨x103000_3, (Int.tmod ((rd_T25 l0 x6_1).f1) 10)⟩ : S25) [.slice Ao28 x103000_3.length co28, .int .i64 (Int.tmod ((rd_T25 l0 x6_1).f1) 10)] (fun k_ => k_ ≠ gb102) (fun k_ => some k_ = (.slice Ao28 x103000_3.length co28 : Value).ownBlock) rfl rfl ?aP (fun k_ hk_ => ((Kd.R_mono (ok' := fun k_ => ((fun k_ => k_ ≠ gb102)) k_ ∧ some k_ ≠ (u5 : Value).ownBlock) (Kd.R_types (Kd.R_apart' (HO_103000.out) (Kd.S_typed HO_5.out) (by decide)) BK102.out (by decide)) (fun k_ hk => ⟨hk.2, hk.1.2⟩))).1 k_ hk_.symm) ?aF ?aO ?aB ?aS ?aL ?_; (case aP => exact k25_mkM _ _ _ (⟨x103000_3, (Int.tmod ((rd_T25 l0 x6_1).f1) 10)⟩ : S25) (Kd.R_mono (Kd.R_tight rfl (Kd.R_mono (ok' := fun k_ => ((fun k_ => k_ ≠ gb102)) k_ ∧ some k_ ≠ (u5 : Value).ownBlock) (Kd.R_types (Kd.R_apart' (HO_103000.out) (Kd.S_typed HO_5.out) (by decide)) BK102.out (by decide)) (fun k_ hk => ⟨hk.2, hk.1.2⟩))) (fun _ h_ => h_))); (case aB => exact Z113); (case aF => exact (fun k_ hk => Kd.freshB (g := gb102) (o := .cells #[.slice Ao28 x103000_3.length co28, .int .i64 (Int.tmod ((rd_T25 l0 x6_1).f1) 10)] 25 (0, 0)) Z116 k_ hk)); (case aO => exact (by (with_reducible repeat (first | apply Kd.S_alloc | apply Kd.S_drewN | apply Kd.S_drew)); exact Kd.S_mono HO_5.out (fun k_ hk => ⟨hk.2, fun e_ => hk.1 e_⟩))); (case aS => exact (below_size Z113)); (case aL => have := LMc25.out; omega); intro v113 w27 ho hb hg hat; rw [← Ny112.out] at ho; have n0_ := Aside0.mk (blk_grown (g := gb102) (o := .cells #[.slice Ao28 x103000_3.length co28, .int .i64 (Int.tmod ((rd_T25 l0 x6_1).f1) 10)] 25 (0, 0)) Z116 hg (Kd.S_away HO_5.out (fun _ hk => hk.2))); have n1_ := Aside0.mk (hb); have n2_ := Aside0.mk (ho); clear BK102; clear HB; clear HO_5; clear HO_103000; have BK102 := n0_; have HB := n1_; have HO114 := n2_; clear n0_ n1_ n2_; clear ho hb hg hat))
            go_roundg k3
            case measure => have := HK1.out; have := HJ2.out; have := HK3.out; omega
            case rel => exact ⟨(y112), (wrap64 (x6_1 + 1)), Z110, H', ⟨by have := HK1.out; have := HJ2.out; have := HK3.out; omega⟩, ⟨by (with_reducible repeat (first | apply Kd.S_alloc | apply Kd.S_drewN | apply Kd.S_drew)); exact Kd.S_mono HO114.out (fun _ hk => trivial)⟩, ⟨by repeat (first | (with_reducible first | exact HB.out | apply below_alloc | apply pw_below_drewN | apply below_drew1 | refine below_set ?_ GE102.out) | exact HB.out)⟩⟩
           ·rw [if_neg c25] at H
            exact absurd H (by simp)
       ·rw [if_neg c7] at H
        exact absurd H (by simp)
      ·rw [if_neg c6] at H
       exact absurd H (by simp)
     ·replace c5 := Bool.eq_false_iff.mpr c5
      subst c5
      have H1 : (some x5_1) = some r := by rw [if_neg (show ¬ (false = true) by decide)] at H; exact H
      clear H
      have H := H1
      clear H1
      obtain rfl := Option.some.inj H
      go_wp2
      go_ret
      exact ⟨_, by first | rfl | (simp [errW_none, errW_some] <;> rfl) | (simp [*, errW_none, errW_some] <;> rfl), by (with_reducible repeat (first | apply Kd.S_alloc | apply Kd.S_drewN | apply Kd.S_drew)); exact HO_5.out, by repeat (first | (with_reducible first | exact HB.out | apply below_alloc | apply pw_below_drewN | apply below_drew1) | exact HB.out)⟩
def ashlarlaw12_box.l0 : Nat → Int → Int → List (S25) → Int → Option ((List (S25)))
 | 0, _, _, _, _ => none
 | k + 1, x0, x1, x5, x6 => if x6 < x0 then (if 0 ≤ x0 then (if (x0 : Int).toNat ≤ 35184372088832 then ((some (List.replicate (x0 : Int).toNat 0 : List Int)).bind fun y115 => ((some (List.replicate (x0 : Int).toNat 0 : List Int)).bind fun y119 => (if 0 ≤ x6 then (if x6 < (y115.length : Int) then (if x6 < (y119.length : Int) then ((some (([(⟨(y115.set (x6 : Int).toNat 1), wrap64 (-x1)⟩ : S25), (⟨(y119.set (x6 : Int).toNat (-1)), wrap64 (-x1)⟩ : S25)] : List (S25)) : List (S25))).bind fun y125 => (if x5.length + y125.length < 4398046511104 then (ashlarlaw12_box.l0 k x0 x1 (x5 ++ y125) (wrap64 (x6 + 1))) else (none))) else (none)) else (none)) else (none)))) else (none)) else (none)) else (some x5)
def ashlarlaw12_box.f (k : Nat) (a0 : Int) (a1 : Int) : Option ((List (S25))) := ashlarlaw12_box.l0 k a0 a1 ([] : List (S25)) 0
theorem ashlarlaw12_box.mono_l : ∀ k, (∀ y0 y1 y2 y3, LeO (ashlarlaw12_box.l0 k y0 y1 y2 y3) (ashlarlaw12_box.l0 (k + 1) y0 y1 y2 y3))
 | 0 => fun _ _ _ _ r h => by simp [ashlarlaw12_box.l0] at h
 | k + 1 => by
  have ih0 := ashlarlaw12_box.mono_l k
  ·intro y0 y1 y2 y3
   unfold ashlarlaw12_box.l0
   repeat' first
   | (with_reducible exact ih0 _ _ _ _)
   | (with_reducible exact LeO.refl _)
   | (with_reducible exact LeO.none _)
   | (with_reducible refine LeO.ite ?_ ?_)
   | (with_reducible refine LeO.bind ?_ (fun _ => ?_))
   | exact ih0 _ _ _ _
   | exact LeO.none _
   | refine LeO.ite ?_ ?_
   | refine LeO.bind ?_ (fun _ => ?_)
theorem ashlarlaw12_box.mono : ∀ a0 a1 k, LeO (ashlarlaw12_box.f k a0 a1) (ashlarlaw12_box.f (k + 1) a0 a1) := by
 intro a0 a1 k
 have ih0 := ashlarlaw12_box.mono_l k
 unfold ashlarlaw12_box.f
 repeat' first
   | (with_reducible exact ih0 _ _ _ _)
   | (with_reducible exact LeO.refl _)
   | (with_reducible exact LeO.none _)
   | (with_reducible refine LeO.ite ?_ ?_)
   | (with_reducible refine LeO.bind ?_ (fun _ => ?_))
   | exact ih0 _ _ _ _
   | exact LeO.none _
   | refine LeO.ite ?_ ?_
   | refine LeO.bind ?_ (fun _ => ?_)
set_option maxHeartbeats 8000000 in
set_option maxRecDepth 100000 in
theorem ashlarlaw12_box.calls (k : Nat) (a0 : Int) (a1 : Int) (r : List (S25)) (w : World) (h : ashlarlaw12_box.f k a0 a1 = some r) :
  Calls Try.prog 8 #[.int .i64 a0, .int .i64 a1] w fun e w' => ∃ v0_ : Value, e = .returned (v0_) ∧ Kd.N k25 25 w' w.heap.size (fun k_ => (w.heap.size ≤ k_)) v0_ r ∧ Below w.heap.size w w' := by
 have hu25 := Try.underlying25
 have HB := Aside0.mk (Below.refl w.heap.size w)
 have H : (ashlarlaw12_box.l0 k a0 a1 ([] : List (S25)) 0) = some r := h
 clear h
 have H' := Aside0.mk H
 clear H
 go_enter Try.func8, Try.ntmps8
 go_wp2
 go_loopg [5, 6] k (fun kq v5 v6 w' => ∃ (x5_1 : List (S25)) (x6_1 : Int), v6 = .int .i64 x6_1 ∧ Aside0 (ashlarlaw12_box.l0 kq a0 a1 x5_1 x6_1 = some r) ∧ Aside0 (kq ≤ k) ∧ Aside0 (Kd.N k25 25 w' w.heap.size (fun k_ => (w.heap.size ≤ k_)) v5 x5_1) ∧ Aside0 (Below w.heap.size w w'))
 case atStart => exact ⟨(([] : List (S25))), (0), Z110, H', ⟨Nat.le_refl _⟩, ⟨by first | exact Kd.S_nil _ _ _ _ _ | exact Kd.N_nil _ _ _ _ _ | exact Kd.V_nil _ _ _ _ _ | exact Kd.Q_nil _ _ _ _ _ | exact Kd.R_nil _ _ _ _ _⟩, ⟨by repeat (first | (with_reducible first | exact HB.out | apply below_alloc | apply pw_below_drewN | apply below_drew1) | exact HB.out)⟩⟩
 case round =>
  clear H'
  try clear p2
  obtain ⟨x5_1, x6_1, rfl, HA, HK1, HO_5, HB⟩ := hrel
  cases gk with
  | zero => exact absurd HA.out (by simp [ashlarlaw12_box.l0])
  | succ k1 =>
   have H := HA.out
   clear HA
   simp only [ashlarlaw12_box.l0] at H
   by_cases c3 : x6_1 < a0
   ·rw [if_pos c3] at H
    have c3b0 : decide (x6_1 < a0) = true := decide_eq_true c3
    clear c3
    by_cases c4 : 0 ≤ a0
    ·rw [if_pos c4] at H
     have c4b0 := eq_true c4
     have c4b1 : decide (0 ≤ a0) = true := decide_eq_true c4
     clear c4
     by_cases c5 : (a0 : Int).toNat ≤ 35184372088832
     ·rw [if_pos c5] at H
      have c5b0 := eq_true c5
      have c5b1 : decide ((a0 : Int).toNat ≤ 35184372088832) = true := decide_eq_true c5
      clear c5
      obtain ⟨y115, hy115⟩ : ∃ y_ : List Int, y_ = (List.replicate (a0 : Int).toNat 0) := ⟨_, rfl⟩
      replace H : ((some (List.replicate (a0 : Int).toNat 0 : List Int)).bind fun y119 => (if 0 ≤ x6_1 then (if x6_1 < (y115.length : Int) then (if x6_1 < (y119.length : Int) then ((some (([(⟨(y115.set (x6_1 : Int).toNat 1), wrap64 (-a1)⟩ : S25), (⟨(y119.set (x6_1 : Int).toNat (-1)), wrap64 (-a1)⟩ : S25)] : List (S25)) : List (S25))).bind fun y125 => (if x5_1.length + y125.length < 4398046511104 then (ashlarlaw12_box.l0 k1 a0 a1 (x5_1 ++ y125) (wrap64 (x6_1 + 1))) else (none))) else (none)) else (none)) else (none))) = some r := by first | (rw [hy115]; with_reducible exact H) | (have H2_ := (Option.bind_some _ _).symm.trans H; rw [hy115]; with_reducible exact H2_) | (have H2_ := (Option.bind_some _ _).symm.trans H; with_reducible exact H2_) | with_reducible exact H | (rw [hy115]; exact H) | exact H
      have Ny115 := Aside0.mk hy115
      clear hy115
      obtain ⟨y119, hy119⟩ : ∃ y_ : List Int, y_ = (List.replicate (a0 : Int).toNat 0) := ⟨_, rfl⟩
      replace H : (if 0 ≤ x6_1 then (if x6_1 < (y115.length : Int) then (if x6_1 < (y119.length : Int) then ((some (([(⟨(y115.set (x6_1 : Int).toNat 1), wrap64 (-a1)⟩ : S25), (⟨(y119.set (x6_1 : Int).toNat (-1)), wrap64 (-a1)⟩ : S25)] : List (S25)) : List (S25))).bind fun y125 => (if x5_1.length + y125.length < 4398046511104 then (ashlarlaw12_box.l0 k1 a0 a1 (x5_1 ++ y125) (wrap64 (x6_1 + 1))) else (none))) else (none)) else (none)) else (none)) = some r := by first | (rw [hy119]; with_reducible exact H) | (have H2_ := (Option.bind_some _ _).symm.trans H; rw [hy119]; with_reducible exact H2_) | (have H2_ := (Option.bind_some _ _).symm.trans H; with_reducible exact H2_) | with_reducible exact H | (rw [hy119]; exact H) | exact H
      have Ny119 := Aside0.mk hy119
      clear hy119
      by_cases c6 : 0 ≤ x6_1
      ·rw [if_pos c6] at H
       have c6b0 : decide (0 ≤ x6_1) = true := decide_eq_true c6
       clear c6
       by_cases c7 : x6_1 < (y115.length : Int)
       ·rw [if_pos c7] at H
        have c7b0 : decide (x6_1 < (y115.length : Int)) = true := decide_eq_true c7
        clear c7
        obtain ⟨y123, hy123⟩ : ∃ y_ : List Int, y_ = (y115.set (x6_1 : Int).toNat 1) := ⟨_, rfl⟩
        replace H : (if x6_1 < (y119.length : Int) then ((some (([(⟨y123, wrap64 (-a1)⟩ : S25), (⟨(y119.set (x6_1 : Int).toNat (-1)), wrap64 (-a1)⟩ : S25)] : List (S25)) : List (S25))).bind fun y125 => (if x5_1.length + y125.length < 4398046511104 then (ashlarlaw12_box.l0 k1 a0 a1 (x5_1 ++ y125) (wrap64 (x6_1 + 1))) else (none))) else (none)) = some r := by first | (rw [hy123]; with_reducible exact H) | (have H2_ := (Option.bind_some _ _).symm.trans H; rw [hy123]; with_reducible exact H2_) | (have H2_ := (Option.bind_some _ _).symm.trans H; with_reducible exact H2_) | with_reducible exact H | (rw [hy123]; exact H) | exact H
        have Ny123 := Aside0.mk hy123
        clear hy123
        by_cases c9 : x6_1 < (y119.length : Int)
        ·rw [if_pos c9] at H
         have c9b0 : decide (x6_1 < (y119.length : Int)) = true := decide_eq_true c9
         clear c9
         obtain ⟨y124, hy124⟩ : ∃ y_ : List Int, y_ = (y119.set (x6_1 : Int).toNat (-1)) := ⟨_, rfl⟩
         replace H : ((some (([(⟨y123, wrap64 (-a1)⟩ : S25), (⟨y124, wrap64 (-a1)⟩ : S25)] : List (S25)) : List (S25))).bind fun y125 => (if x5_1.length + y125.length < 4398046511104 then (ashlarlaw12_box.l0 k1 a0 a1 (x5_1 ++ y125) (wrap64 (x6_1 + 1))) else (none))) = some r := by first | (rw [hy124]; with_reducible exact H) | (have H2_ := (Option.bind_some _ _).symm.trans H; rw [hy124]; with_reducible exact H2_) | (have H2_ := (Option.bind_some _ _).symm.trans H; with_reducible exact H2_) | with_reducible exact H | (rw [hy124]; exact H) | exact H
         have Ny124 := Aside0.mk hy124
         clear hy124
         obtain ⟨y125, hy125⟩ : ∃ y_ : List (S25), y_ = (([(⟨y123, wrap64 (-a1)⟩ : S25), (⟨y124, wrap64 (-a1)⟩ : S25)] : List (S25))) := ⟨_, rfl⟩
         replace H : (if x5_1.length + y125.length < 4398046511104 then (ashlarlaw12_box.l0 k1 a0 a1 (x5_1 ++ y125) (wrap64 (x6_1 + 1))) else (none)) = some r := by first | (rw [hy125]; with_reducible exact H) | (have H2_ := (Option.bind_some _ _).symm.trans H; rw [hy125]; with_reducible exact H2_) | (have H2_ := (Option.bind_some _ _).symm.trans H; with_reducible exact H2_) | with_reducible exact H | (rw [hy125]; exact H) | exact H
         have Ny125 := Aside0.mk hy125
         clear hy125
         by_cases c11 : x5_1.length + y125.length < 4398046511104
         ·rw [if_pos c11] at H
          have LMc11 := Aside0.mk c11
          clear c11
          obtain ⟨y128, hy128⟩ : ∃ y_ : List (S25), y_ = (x5_1 ++ y125) := ⟨_, rfl⟩
          replace H : (ashlarlaw12_box.l0 k1 a0 a1 y128 (wrap64 (x6_1 + 1))) = some r := by first | (rw [hy128]; with_reducible exact H) | (have H2_ := (Option.bind_some _ _).symm.trans H; rw [hy128]; with_reducible exact H2_) | (have H2_ := (Option.bind_some _ _).symm.trans H; with_reducible exact H2_) | with_reducible exact H | (rw [hy128]; exact H) | exact H
          have Ny128 := Aside0.mk hy128
          clear hy128
          have H' := Aside0.mk H
          clear H
          go_wp2_with (first | ((with_reducible refine gate_dst (N := 15) rfl ?_); refine Kd.R_make (Kd.int .i64) _ 2 rfl (N := 15) rfl 23 _ _ rfl a0 rfl rfl Try.underlying23 (.int .i64 0) 8 info2 rfl (by decide) (by omega) 0 (ok := fun _ => True) (okp := fun _ => True) rfl (fun _ hk => hk) trivial (of_decide_eq_true Z111) (Nat.le_trans (Nat.mul_le_mul_right _ (of_decide_eq_true Z111 : a0.toNat ≤ 35184372088832)) (by omega)) (Below.refl _ _) (Nat.le_refl _) ?_; intro v116 w12 ho13 hb hg_ hnew_; clear hg_ hnew_; (first | rw [← Ny115.out] at ho13 | (simp only [Int.reduceToNat] at ho13; rw [← Ny115.out] at ho13)); have n0_ := Aside0.mk (Kd.N_elder' Z117 (Kd.R_base ho13) hb); have n1_ := Aside0.mk (Kd.R_lower (Kd.R_newM (M := fun k_ => (w.heap.size ≤ k_)) ho13 (below_size Z112) (fun k_ h_ => h_)) (below_size Z112)); have n2_ := Aside0.mk (below_step Z112 hb); clear HO_5; clear HB; have HO_5 := n0_; have HO117 := n1_; have HB := n2_; clear n0_ n1_ n2_; clear hb ho13; obtain ⟨Ao14, co14, eo14⟩ := Kd.R_slice HO117.out; subst eo14) | ((with_reducible refine gate_dst (N := 7) rfl ?_); refine box_event ?hg (N := 7) ?hd (cs := #[.slice none 0 0, .int .i64 0]) (t := 25) ?hr ?_; (case hd => rfl); (case hg => rfl); (case hr => first | (go_simp; done) | (go_simp; rfl)); intro gb118 hg w15 hbox hb; have n0_ := Aside0.mk (Kd.N_below (Kd.N_elderB Z117 gb118 (Nat.le_of_eq hg.symm)) hb); have n1_ := Aside0.mk (Kd.R_below Z118 hb); have n2_ := Aside0.mk (below_step Z112 hb); have n3_ := Aside0.mk (hbox); have n4_ := Aside0.mk ((by rw [hg]; exact (below_size Z112) : w.heap.size ≤ gb118)); have n5_ := Aside0.mk ((by rw [hg]; exact (below_size Z112) : w.heap.size ≤ gb118)); clear HO_5; clear HO117; clear HB; have HO_5 := n0_; have HO117 := n1_; have HB := n2_; have BK118 := n3_; have GW118 := n4_; have GE118 := n5_; clear n0_ n1_ n2_ n3_ n4_ n5_; clear hb hbox hg; have hcz16_0 : w15.cell? ⟨gb118, 0, none⟩ = some (.slice none 0 0) := (blk_cell BK118.out 0).trans rfl; have hcz16_1 : w15.cell? ⟨gb118, 1, none⟩ = some (.int .i64 0) := (blk_cell BK118.out 1).trans rfl; have hfz16_0 := blk_frozen BK118.out 0; have hfz16_1 := blk_frozen BK118.out 1) | ((with_reducible refine gate_dst (N := 20) rfl ?_); refine Kd.R_make (Kd.int .i64) _ 2 rfl (N := 20) rfl 23 _ _ rfl a0 rfl rfl Try.underlying23 (.int .i64 0) 8 info2 rfl (by decide) (by omega) 0 (ok := fun _ => True) (okp := fun _ => True) rfl (fun _ hk => hk) trivial (of_decide_eq_true Z111) (Nat.le_trans (Nat.mul_le_mul_right _ (of_decide_eq_true Z111 : a0.toNat ≤ 35184372088832)) (by omega)) (Below.refl _ _) (Nat.le_refl _) ?_; intro v120 w17 ho18 hb hg_ hnew_; clear hg_ hnew_; (first | rw [← Ny119.out] at ho18 | (simp only [Int.reduceToNat] at ho18; rw [← Ny119.out] at ho18)); have n0_ := Aside0.mk (Kd.N_elder' (by (with_reducible repeat (first | apply Kd.N_alloc | apply Kd.N_drewN | apply Kd.N_drew)); exact (Kd.N_mono (Kd.N_far (p := ⟨gb118, 1, none⟩) (Kd.N_far (p := ⟨gb118, 0, none⟩) (Kd.N_mono HO_5.out (fun k_ hk => (⟨hk, hk.2⟩ : _ ∧ k_ ≠ gb118))) (fun _ hk => hk.2) (.slice Ao14 y115.length co14)) (fun _ hk => hk.2) (.int .i64 (wrap64 (-a1)))) (fun _ h_ => h_.1))) (Kd.R_base ho18) hb); have n1_ := Aside0.mk (Kd.R_elder' Z119 (Kd.R_base ho18) hb); have n2_ := Aside0.mk (Kd.R_lower (Kd.R_new' (Kd.R_newM (M := fun k_ => (w.heap.size ≤ k_)) ho18 (below_size Z11a) (fun k_ h_ => h_)) (Kd.R_lt Z119)) (below_size Z11a)); have n3_ := Aside0.mk (blk_below (g := gb118) (o := .cells #[.slice Ao14 y115.length co14, .int .i64 (wrap64 (-a1))] 25 (0, 0)) (by (with_reducible repeat (first | refine blk_drewN ?_ _ | refine blk_drew ?_ | refine blk_alloc ?_ _)); refine blk_put (cs := #[.slice Ao14 y115.length co14, .int .i64 0]) ?_ 1 _ rfl; (with_reducible repeat (first | refine blk_drewN ?_ _ | refine blk_drew ?_ | refine blk_alloc ?_ _)); refine blk_put (cs := #[.slice none 0 0, .int .i64 0]) ?_ 0 _ rfl; (with_reducible repeat (first | refine blk_drewN ?_ _ | refine blk_drew ?_ | refine blk_alloc ?_ _)); exact BK118.out) hb); have n4_ := Aside0.mk (below_step Z11a hb); clear HO_5; clear HO117; clear BK118; clear HB; have HO_5 := n0_; have HO117 := n1_; have HO121 := n2_; have BK118 := n3_; have HB := n4_; clear n0_ n1_ n2_ n3_ n4_; clear hb ho18; obtain ⟨Ao19, co19, eo19⟩ := Kd.R_slice HO121.out; subst eo19) | ((with_reducible refine gate_dst (N := 8) rfl ?_); refine box_event ?hg (N := 8) ?hd (cs := #[.slice none 0 0, .int .i64 0]) (t := 25) ?hr ?_; (case hd => rfl); (case hg => rfl); (case hr => first | (go_simp; done) | (go_simp; rfl)); intro gb122 hg w20 hbox hb; have n0_ := Aside0.mk (Kd.N_below (Kd.N_elderB Z117 gb122 (Nat.le_of_eq hg.symm)) hb); have n1_ := Aside0.mk (Kd.R_below Z118 hb); have n2_ := Aside0.mk (Kd.R_below Z11b hb); have n3_ := Aside0.mk (blk_below (g := gb118) (o := .cells #[.slice Ao14 y115.length co14, .int .i64 (wrap64 (-a1))] 25 (0, 0)) Z11c hb); have n4_ := Aside0.mk (below_step Z11a hb); have n5_ := Aside0.mk (hbox); have n6_ := Aside0.mk ((by rw [hg]; exact (below_size Z11a) : w.heap.size ≤ gb122)); have n7_ := Aside0.mk ((by rw [hg]; exact (below_size Z11a) : w.heap.size ≤ gb122)); have n8_ := Aside0.mk ((by rw [hg]; exact Nat.ne_of_lt (blk_lt (g := gb118) (o := .cells #[.slice Ao14 y115.length co14, .int .i64 (wrap64 (-a1))] 25 (0, 0)) Z11c) : gb118 ≠ gb122)); have n9_ := Aside0.mk ((by rw [hg]; exact Nat.ne_of_gt (blk_lt (g := gb118) (o := .cells #[.slice Ao14 y115.length co14, .int .i64 (wrap64 (-a1))] 25 (0, 0)) Z11c) : gb122 ≠ gb118)); clear HO_5; clear HO117; clear HO121; clear BK118; clear HB; have HO_5 := n0_; have HO117 := n1_; have HO121 := n2_; have BK118 := n3_; have HB := n4_; have BK122 := n5_; have GW122 := n6_; have GE122 := n7_; have NB118_122 := n8_; have NB122_118 := n9_; clear n0_ n1_ n2_ n3_ n4_ n5_ n6_ n7_ n8_ n9_; clear hb hbox hg; have hnb21 := NB122_118.out; have hnc21 := NB118_122.out; have hcz22_0 : w20.cell? ⟨gb122, 0, none⟩ = some (.slice none 0 0) := (blk_cell BK122.out 0).trans rfl; have hcz22_1 : w20.cell? ⟨gb122, 1, none⟩ = some (.int .i64 0) := (blk_cell BK122.out 1).trans rfl; have hfz22_0 := blk_frozen BK122.out 0; have hfz22_1 := blk_frozen BK122.out 1) | ((with_reducible refine gate_store (t := 25) (p := 8) rfl ?_); refine store_event (t := 25) (p := 8) (v := ?vo_w23) (w1 := ((w20.setCell ⟨gb122, 0, none⟩ (.slice Ao19 y119.length co19)).setCell ⟨gb122, 1, none⟩ (.int .i64 (wrap64 (-a1))))) ?hg ?ho ?hn ?hr ?_; (case ho => rfl); (case hg => rfl); (case hn => rfl); (case hr => first | (go_simp; done) | (go_simp; rfl)); intro w23 hw; have n0_ : Aside0 (Kd.N k25 25 w23 w.heap.size (fun k_ => (w.heap.size ≤ k_) ∧ some k_ ≠ (.slice Ao14 y115.length co14 : Value).ownBlock ∧ some k_ ≠ (.slice Ao19 y119.length co19 : Value).ownBlock ∧ k_ ≠ gb118 ∧ k_ ≠ gb122) u5 x5_1) := ⟨(by rw [hw]; exact (by (with_reducible repeat (first | apply Kd.N_alloc | apply Kd.N_drewN | apply Kd.N_drew)); exact Kd.N_mono (Kd.N_far (p := ⟨gb122, 1, none⟩) (Kd.N_far (p := ⟨gb122, 0, none⟩) (Kd.N_mono HO_5.out (fun k_ hk => (⟨hk, hk.2⟩ : _ ∧ k_ ≠ gb122))) (fun _ hk => hk.2) (.slice Ao19 y119.length co19)) (fun _ hk => hk.2) (.int .i64 (wrap64 (-a1)))) (fun _ hk => ⟨hk.1.1.1.1.1, ⟨hk.1.1.1.1.2, ⟨hk.1.1.2, ⟨hk.1.1.1.2, hk.1.2⟩⟩⟩⟩)))⟩; have n1_ : Aside0 (Kd.R (Kd.int .i64) 2 w23 w.heap.size (fun k_ => (w.heap.size ≤ k_) ∧ some k_ ≠ (.slice Ao19 y119.length co19 : Value).ownBlock) (.slice Ao14 y115.length co14) y115) := ⟨(by rw [hw]; exact (by (with_reducible repeat (first | apply Kd.R_alloc | apply Kd.R_drewN | apply Kd.R_drew)); exact Kd.R_mono (Kd.R_far (p := ⟨gb122, 1, none⟩) (Kd.R_far (p := ⟨gb122, 0, none⟩) (Kd.R_types HO117.out BK122.out (by decide)) (fun _ hk => hk.2) (.slice Ao19 y119.length co19)) (fun _ hk => hk.2) (.int .i64 (wrap64 (-a1)))) (fun _ hk => ⟨hk.1.1.1, hk.1.2⟩)))⟩; have n2_ : Aside0 (Kd.R (Kd.int .i64) 2 w23 w.heap.size (fun k_ => (w.heap.size ≤ k_) ∧ some k_ ≠ (.slice Ao14 y115.length co14 : Value).ownBlock) (.slice Ao19 y119.length co19) y119) := ⟨(by rw [hw]; exact (by (with_reducible repeat (first | apply Kd.R_alloc | apply Kd.R_drewN | apply Kd.R_drew)); exact Kd.R_mono (Kd.R_far (p := ⟨gb122, 1, none⟩) (Kd.R_far (p := ⟨gb122, 0, none⟩) (Kd.R_types HO121.out BK122.out (by decide)) (fun _ hk => hk.2) (.slice Ao19 y119.length co19)) (fun _ hk => hk.2) (.int .i64 (wrap64 (-a1)))) (fun _ hk => ⟨hk.1.1.1, hk.1.2⟩)))⟩; have n3_ : Aside0 (w23.heap[gb118]? = some (.cells #[.slice Ao14 y115.length co14, .int .i64 (wrap64 (-a1))] 25 (0, 0))) := ⟨(by rw [hw]; exact (by (with_reducible repeat (first | refine blk_drewN ?_ _ | refine blk_drew ?_ | refine blk_alloc ?_ _)); refine blk_far ?_ NB118_122.out _; (with_reducible repeat (first | refine blk_drewN ?_ _ | refine blk_drew ?_ | refine blk_alloc ?_ _)); refine blk_far ?_ NB118_122.out _; (with_reducible repeat (first | refine blk_drewN ?_ _ | refine blk_drew ?_ | refine blk_alloc ?_ _)); exact BK118.out))⟩; have n4_ : Aside0 (w23.heap[gb122]? = some (.cells #[.slice Ao19 y119.length co19, .int .i64 (wrap64 (-a1))] 25 (0, 0))) := ⟨(by rw [hw]; exact (by (with_reducible repeat (first | refine blk_drewN ?_ _ | refine blk_drew ?_ | refine blk_alloc ?_ _)); refine blk_put (cs := #[.slice Ao19 y119.length co19, .int .i64 0]) ?_ 1 _ rfl; (with_reducible repeat (first | refine blk_drewN ?_ _ | refine blk_drew ?_ | refine blk_alloc ?_ _)); refine blk_put (cs := #[.slice none 0 0, .int .i64 0]) ?_ 0 _ rfl; (with_reducible repeat (first | refine blk_drewN ?_ _ | refine blk_drew ?_ | refine blk_alloc ?_ _)); exact BK122.out))⟩; have n5_ : Aside0 (Below w.heap.size w w23) := ⟨(by rw [hw]; exact Z11d)⟩; clear hw; clear HO_5; clear HO117; clear HO121; clear BK118; clear BK122; clear HB; have HO_5 := n0_; have HO117 := n1_; have HO121 := n2_; have BK118 := n3_; have BK122 := n4_; have HB := n5_; clear n0_ n1_ n2_ n3_ n4_ n5_; have hcz24_0 : w23.cell? ⟨gb118, 0, none⟩ = some (.slice Ao14 y115.length co14) := (blk_cell BK118.out 0).trans rfl; have hcz24_1 : w23.cell? ⟨gb118, 1, none⟩ = some (.int .i64 (wrap64 (-a1))) := (blk_cell BK118.out 1).trans rfl; have hfz24_0 := blk_frozen BK118.out 0; have hfz24_1 := blk_frozen BK118.out 1; have p8 : 0 ≤ (x6_1 : Int) := of_decide_eq_true Z111; have q8 : (x6_1 : Int) < ((y115.length : Int) : Int) := of_decide_eq_true Z111; obtain ⟨go8, co8, eo8, gb8, gl8, cl8, HG8⟩ := Kd.R_form HO117.out (by omega); (first | cases eo8 | (injection eo8 with ea_ en_ ec_; (first | subst ea_ | (injection ea_ with ea_; subst ea_)); subst ec_; clear en_)); have GB8 := Aside0.mk gb8; have GG8 := Aside0.mk HG8; clear gb8 gl8 HG8; obtain ⟨hx8_0, hf8_0⟩ := Kd.R_celln 0 HO117.out (x6_1 : Int) p8 q8; replace p8 := eq_true p8; replace q8 := eq_true q8; obtain ⟨hy25_, hz25_⟩ := Kd.R_celln 0 HO117.out (x6_1 : Int) (of_decide_eq_true Z111) (of_decide_eq_true Z111); have HP25 := Kd.R_putg HO117.out (x6_1 : Int) 1) | ((with_reducible refine gate_store (t := 2) (p := 27) rfl ?_); refine store_event (t := 2) (p := 27) (v := ?vo_w26) (w1 := (w23.setCell ⟨go8, (x6_1 : Int).toNat, none⟩ (.int .i64 1))) ?hg ?ho ?hn ?hr ?_; (case ho => rfl); (case hg => rfl); (case hn => rfl); (case hr => first | (go_simp; done) | (go_simp; rfl)); intro w26 hw; have hg : w23.grownBy w26 (some go8) := (by rw [hw]; exact HP25.2); have hp_ : Kd.R (Kd.int .i64) 2 w26 w.heap.size (fun k_ => (w.heap.size ≤ k_) ∧ some k_ ≠ (.slice Ao19 y119.length co19 : Value).ownBlock) (.slice (some ⟨go8, 0, none⟩) y115.length co14) y123 := (by rw [hw, Ny123.out]; exact HP25.1); clear HP25; have n0_ := Aside0.mk (Kd.N_afterv (v := (.slice (some ⟨go8, 0, none⟩) y115.length co14)) (v1 := (.slice (some ⟨go8, 0, none⟩) y115.length co14)) (ok := (fun k_ => (w.heap.size ≤ k_) ∧ some k_ ≠ (.slice Ao19 y119.length co19 : Value).ownBlock ∧ k_ ≠ gb118 ∧ k_ ≠ gb122)) (by (with_reducible repeat (first | apply Kd.N_alloc | apply Kd.N_drewN | apply Kd.N_drew)); exact Kd.N_mono HO_5.out (fun _ hk => ⟨⟨hk.1, ⟨hk.2.2.1, ⟨hk.2.2.2.1, hk.2.2.2.2⟩⟩⟩, hk.2.1⟩)) hg (.inl rfl)); have n1_ := Aside0.mk (hp_); have n2_ := Aside0.mk (blk_grown (g := gb118) (o := .cells #[.slice (some ⟨go8, 0, none⟩) y115.length co14, .int .i64 (wrap64 (-a1))] 25 (0, 0)) Z11c hg (Kd.R_ne HO117.out BK118.out (by decide))); have n3_ := Aside0.mk (Kd.R_after (v := (.slice (some ⟨go8, 0, none⟩) y115.length co14)) (v1 := (.slice (some ⟨go8, 0, none⟩) y115.length co14)) (ok := (fun k_ => (w.heap.size ≤ k_))) Z11b hg (.inl rfl)); have n4_ := Aside0.mk (blk_grown (g := gb122) (o := .cells #[.slice Ao19 y119.length co19, .int .i64 (wrap64 (-a1))] 25 (0, 0)) Z11e hg (Kd.R_ne HO117.out BK122.out (by decide))); have n5_ := Aside0.mk ((by rw [hw]; exact below_set (HB.out) GB8.out : Below w.heap.size w w26)); clear HO_5; clear HO117; clear BK118; clear HO121; clear BK122; clear HB; have HO_5 := n0_; have HO117 := n1_; have BK118 := n2_; have HO121 := n3_; have BK122 := n4_; have HB := n5_; clear n0_ n1_ n2_ n3_ n4_ n5_; clear hg hw hp_; have hcz27_0 : w26.cell? ⟨gb122, 0, none⟩ = some (.slice Ao19 y119.length co19) := (blk_cell BK122.out 0).trans rfl; have hcz27_1 : w26.cell? ⟨gb122, 1, none⟩ = some (.int .i64 (wrap64 (-a1))) := (blk_cell BK122.out 1).trans rfl; have hfz27_0 := blk_frozen BK122.out 0; have hfz27_1 := blk_frozen BK122.out 1; have p10 : 0 ≤ (x6_1 : Int) := of_decide_eq_true Z111; have q10 : (x6_1 : Int) < ((y119.length : Int) : Int) := of_decide_eq_true Z111; obtain ⟨go10, co10, eo10, gb10, gl10, cl10, HG10⟩ := Kd.R_form HO121.out (by omega); (first | cases eo10 | (injection eo10 with ea_ en_ ec_; (first | subst ea_ | (injection ea_ with ea_; subst ea_)); subst ec_; clear en_)); have GB10 := Aside0.mk gb10; have GG10 := Aside0.mk HG10; clear gb10 gl10 HG10; obtain ⟨hx10_0, hf10_0⟩ := Kd.R_celln 0 HO121.out (x6_1 : Int) p10 q10; replace p10 := eq_true p10; replace q10 := eq_true q10; obtain ⟨hy28_, hz28_⟩ := Kd.R_celln 0 HO121.out (x6_1 : Int) (of_decide_eq_true Z111) (of_decide_eq_true Z111); have HP28 := Kd.R_putg HO121.out (x6_1 : Int) (-1)) | ((with_reducible refine gate_store (t := 2) (p := 31) rfl ?_); refine store_event (t := 2) (p := 31) (v := ?vo_w29) (w1 := (w26.setCell ⟨go10, (x6_1 : Int).toNat, none⟩ (.int .i64 (-1)))) ?hg ?ho ?hn ?hr ?_; (case ho => rfl); (case hg => rfl); (case hn => rfl); (case hr => first | (go_simp; done) | (go_simp; rfl)); intro w29 hw; have hg : w26.grownBy w29 (some go10) := (by rw [hw]; exact HP28.2); have hp_ : Kd.R (Kd.int .i64) 2 w29 w.heap.size (fun k_ => (w.heap.size ≤ k_) ∧ some k_ ≠ (.slice (some ⟨go8, 0, none⟩) y115.length co14 : Value).ownBlock) (.slice (some ⟨go10, 0, none⟩) y119.length co19) y124 := (by rw [hw, Ny124.out]; exact HP28.1); clear HP28; have n0_ := Aside0.mk (Kd.N_afterv (v := (.slice (some ⟨go10, 0, none⟩) y119.length co19)) (v1 := (.slice (some ⟨go10, 0, none⟩) y119.length co19)) (ok := (fun k_ => (w.heap.size ≤ k_) ∧ some k_ ≠ (.slice (some ⟨go8, 0, none⟩) y115.length co14 : Value).ownBlock ∧ k_ ≠ gb118 ∧ k_ ≠ gb122)) (by (with_reducible repeat (first | apply Kd.N_alloc | apply Kd.N_drewN | apply Kd.N_drew)); exact Kd.N_mono HO_5.out (fun _ hk => ⟨⟨hk.1.1, ⟨hk.2, ⟨hk.1.2.2.1, hk.1.2.2.2⟩⟩⟩, hk.1.2.1⟩)) hg (.inl rfl)); have n1_ := Aside0.mk (Kd.R_after (v := (.slice (some ⟨go10, 0, none⟩) y119.length co19)) (v1 := (.slice (some ⟨go10, 0, none⟩) y119.length co19)) (ok := (fun k_ => (w.heap.size ≤ k_))) Z118 hg (.inl rfl)); have n2_ := Aside0.mk (blk_grown (g := gb118) (o := .cells #[.slice (some ⟨go8, 0, none⟩) y115.length co14, .int .i64 (wrap64 (-a1))] 25 (0, 0)) Z11c hg (Kd.R_ne HO121.out BK118.out (by decide))); have n3_ := Aside0.mk (hp_); have n4_ := Aside0.mk (blk_grown (g := gb122) (o := .cells #[.slice (some ⟨go10, 0, none⟩) y119.length co19, .int .i64 (wrap64 (-a1))] 25 (0, 0)) Z11e hg (Kd.R_ne HO121.out BK122.out (by decide))); have n5_ := Aside0.mk ((by rw [hw]; exact below_set (HB.out) GB10.out : Below w.heap.size w w29)); clear HO_5; clear HO117; clear BK118; clear HO121; clear BK122; clear HB; have HO_5 := n0_; have HO117 := n1_; have BK118 := n2_; have HO121 := n3_; have BK122 := n4_; have HB := n5_; clear n0_ n1_ n2_ n3_ n4_ n5_; clear hg hw hp_; have hcz30_0 : w29.cell? ⟨gb118, 0, none⟩ = some (.slice (some ⟨go8, 0, none⟩) y115.length co14) := (blk_cell BK118.out 0).trans rfl; have hcz30_1 : w29.cell? ⟨gb118, 1, none⟩ = some (.int .i64 (wrap64 (-a1))) := (blk_cell BK118.out 1).trans rfl; have hfz30_0 := blk_frozen BK118.out 0; have hfz30_1 := blk_frozen BK118.out 1; have hcz31_0 : w29.cell? ⟨gb122, 0, none⟩ = some (.slice (some ⟨go10, 0, none⟩) y119.length co19) := (blk_cell BK122.out 0).trans rfl; have hcz31_1 : w29.cell? ⟨gb122, 1, none⟩ = some (.int .i64 (wrap64 (-a1))) := (blk_cell BK122.out 1).trans rfl; have hfz31_0 := blk_frozen BK122.out 0; have hfz31_1 := blk_frozen BK122.out 1) | ((with_reducible refine gate_dst (N := 35) rfl ?_); refine Kd.N_lit k25 _ 25 ?hg (N' := 35) ?hd (xs := ([(⟨y123, wrap64 (-a1)⟩ : S25), (⟨y124, wrap64 (-a1)⟩ : S25)] : List (S25))) (inner := [.slice (some ⟨go8, 0, none⟩) y115.length co14, .int .i64 (wrap64 (-a1)), .slice (some ⟨go10, 0, none⟩) y119.length co19, .int .i64 (wrap64 (-a1))]) (ok := (fun k_ => (w.heap.size ≤ k_) ∧ some k_ ≠ (u5 : Value).ownBlock ∧ k_ ≠ gb118 ∧ k_ ≠ gb122)) (okp := (fun k_ => (w.heap.size ≤ k_) ∧ some k_ ≠ (u5 : Value).ownBlock ∧ k_ ≠ gb118 ∧ k_ ≠ gb122)) ?hr ?hp (fun _ hk => hk) ((show ∀ k_, w29.heap.size ≤ k_ → (fun k_ => (w.heap.size ≤ k_) ∧ some k_ ≠ (u5 : Value).ownBlock ∧ k_ ≠ gb118 ∧ k_ ≠ gb122) k_ from fun k_ hk => ⟨(Nat.le_trans (below_size Z11d) hk), Kd.fresh' (Kd.N_lt Z117) k_ hk, Kd.freshB (g := gb118) (o := .cells #[.slice (some ⟨go8, 0, none⟩) y115.length co14, .int .i64 (wrap64 (-a1))] 25 (0, 0)) Z11c k_ hk, Kd.freshB (g := gb122) (o := .cells #[.slice (some ⟨go10, 0, none⟩) y119.length co19, .int .i64 (wrap64 (-a1))] 25 (0, 0)) Z11e k_ hk⟩) _ (Nat.le_refl _)) (Below.refl _ _) (Nat.le_refl _) (by simp) ?_; (case hd => rfl); (case hg => rfl); (case hr => first | (go_simp; done) | (go_simp; rfl)); (case hp => exact (Reps.c2 (show Kd.FK k25 _ _ (⟨y123, wrap64 (-a1)⟩ : S25) [.slice (some ⟨go8, 0, none⟩) y115.length co14, .int .i64 (wrap64 (-a1))] from (by have e_ : y115.length = y123.length := (by rw [Ny123.out, List.length_set]); have h_ := (Kd.R_types (Kd.R_types (Kd.R_apart' (HO117.out) (Kd.N_typed HO_5.out) (by decide)) BK118.out (by decide)) BK122.out (by decide)); rw [e_] at h_ ⊢; exact k25_mkF _ _ (⟨y123, wrap64 (-a1)⟩ : S25) (Kd.R_reads' h_).2.1 (Kd.R_F (Kd.R_mono (ok' := (fun k_ => (w.heap.size ≤ k_) ∧ some k_ ≠ (u5 : Value).ownBlock ∧ k_ ≠ gb118 ∧ k_ ≠ gb122)) h_ (fun k_ hk => ⟨hk.1.1.1.1, ⟨hk.1.1.2, ⟨hk.1.2, hk.2⟩⟩⟩))))) (Reps.c2 (show Kd.FK k25 _ _ (⟨y124, wrap64 (-a1)⟩ : S25) [.slice (some ⟨go10, 0, none⟩) y119.length co19, .int .i64 (wrap64 (-a1))] from (by have e_ : y119.length = y124.length := (by rw [Ny124.out, List.length_set]); have h_ := (Kd.R_types (Kd.R_types (Kd.R_apart' (HO121.out) (Kd.N_typed HO_5.out) (by decide)) BK118.out (by decide)) BK122.out (by decide)); rw [e_] at h_ ⊢; exact k25_mkF _ _ (⟨y124, wrap64 (-a1)⟩ : S25) (Kd.R_reads' h_).2.1 (Kd.R_F (Kd.R_mono (ok' := (fun k_ => (w.heap.size ≤ k_) ∧ some k_ ≠ (u5 : Value).ownBlock ∧ k_ ≠ gb118 ∧ k_ ≠ gb122)) h_ (fun k_ hk => ⟨hk.1.1.1.1, ⟨hk.1.1.2, ⟨hk.1.2, hk.2⟩⟩⟩))))) (Reps.none _ _)))); intro v126 w32 ho33 hb hg_ hnew_; clear hg_ hnew_; (first | rw [← Ny125.out] at ho33 | (simp only [Int.reduceToNat] at ho33; rw [← Ny125.out] at ho33)); have n0_ := Aside0.mk (Kd.N_elder' Z117 (Kd.N_base ho33) hb); have n1_ := Aside0.mk (Kd.N_lower ho33 (below_size Z11d)); have n2_ := Aside0.mk (blk_below (g := gb118) (o := .cells #[.slice (some ⟨go8, 0, none⟩) y115.length co14, .int .i64 (wrap64 (-a1))] 25 (0, 0)) Z11c hb); have n3_ := Aside0.mk (blk_below (g := gb122) (o := .cells #[.slice (some ⟨go10, 0, none⟩) y119.length co19, .int .i64 (wrap64 (-a1))] 25 (0, 0)) Z11e hb); have n4_ := Aside0.mk (below_step Z11d hb); clear HO_5; clear BK118; clear BK122; clear HB; clear HO117; clear HO121; have HO_5 := n0_; have HO127 := n1_; have BK118 := n2_; have BK122 := n3_; have HB := n4_; clear n0_ n1_ n2_ n3_ n4_; clear hb ho33; obtain ⟨Ao35, co35, eo35⟩ := Kd.N_slice HO127.out; subst eo35) | ((with_reducible refine gate_builtin (b := .append) (xs := #[.tmp 32, .tmp 35]) rfl ?_); at_builtin; refine Kd.N_append_rows k25 (w0 := w) w.heap.size rfl (.tmp 32) (.tmp 35) 22 25 (.agg #[(.slice none 0 0), (.int .i64 0)]) 32 rfl Try.underlying22 info25 rfl (by decide) (by omega) u5 x5_1 y125 _ _ _ (fun k_ => (w.heap.size ≤ k_) ∧ k_ ≠ gb118 ∧ k_ ≠ gb122) (fun k_ => ((fun k_ => (w.heap.size ≤ k_) ∧ k_ ≠ gb118 ∧ k_ ≠ gb122)) k_ ∧ some k_ ≠ (u5 : Value).ownBlock) rfl rfl ?aO ?aR (fun _ hk => hk) ?aF ?aB ?aS ?aL ?_; (case aR => exact (by skip; exact Kd.N_F (Kd.N_mono (ok' := (fun k_ => ((fun k_ => (w.heap.size ≤ k_) ∧ k_ ≠ gb118 ∧ k_ ≠ gb122)) k_ ∧ some k_ ≠ (u5 : Value).ownBlock)) (HO127.out) (fun k_ hk => ⟨⟨hk.1, ⟨hk.2.2.1, hk.2.2.2⟩⟩, hk.2.1⟩)))); (case aB => exact Z11d); (case aF => exact (fun k_ hk => ⟨(Nat.le_trans (below_size Z11d) hk), Kd.freshB (g := gb118) (o := .cells #[.slice (some ⟨go8, 0, none⟩) y115.length co14, .int .i64 (wrap64 (-a1))] 25 (0, 0)) Z11c k_ hk, Kd.freshB (g := gb122) (o := .cells #[.slice (some ⟨go10, 0, none⟩) y119.length co19, .int .i64 (wrap64 (-a1))] 25 (0, 0)) Z11e k_ hk⟩)); (case aO => exact (by (with_reducible repeat (first | apply Kd.N_alloc | apply Kd.N_drewN | apply Kd.N_drew)); exact Kd.N_mono HO_5.out (fun _ hk => ⟨hk.1.1.1, ⟨hk.1.1.2.2.1, hk.1.1.2.2.2⟩⟩))); (case aS => exact (below_size Z11d)); (case aL => have := LMc11.out; omega); intro v129 w34 ho hb hg hat; rw [← Ny128.out] at ho; have n0_ := Aside0.mk (blk_grown (g := gb118) (o := .cells #[.slice (some ⟨go8, 0, none⟩) y115.length co14, .int .i64 (wrap64 (-a1))] 25 (0, 0)) Z11c hg (Kd.N_away HO_5.out (fun _ hk => hk.1.1.2.2.1))); have n1_ := Aside0.mk (blk_grown (g := gb122) (o := .cells #[.slice (some ⟨go10, 0, none⟩) y119.length co19, .int .i64 (wrap64 (-a1))] 25 (0, 0)) Z11e hg (Kd.N_away HO_5.out (fun _ hk => hk.1.1.2.2.2))); have n2_ := Aside0.mk (Kd.N_afterv (ok := (fun k_ => (w.heap.size ≤ k_) ∧ k_ ≠ gb118 ∧ k_ ≠ gb122)) (by (with_reducible repeat (first | apply Kd.N_alloc | apply Kd.N_drewN | apply Kd.N_drew)); exact Kd.N_mono HO127.out (fun _ hk => ⟨⟨hk.1, ⟨hk.2.2.1, hk.2.2.2⟩⟩, hk.2.1⟩)) hg hat); have n3_ := Aside0.mk (hb); have n4_ := Aside0.mk (ho); clear BK118; clear BK122; clear HO127; clear HB; clear HO_5; have BK118 := n0_; have BK122 := n1_; have HO127 := n2_; have HB := n3_; have HO130 := n4_; clear n0_ n1_ n2_ n3_ n4_; clear ho hb hg hat))
          go_roundg k1
          case measure => have := HK1.out; omega
          case rel => exact ⟨(y128), (wrap64 (x6_1 + 1)), Z110, H', ⟨by have := HK1.out; omega⟩, ⟨by (with_reducible repeat (first | apply Kd.N_alloc | apply Kd.N_drewN | apply Kd.N_drew)); exact Kd.N_mono HO130.out (fun _ hk => hk.1)⟩, ⟨by repeat (first | (with_reducible first | exact HB.out | apply below_alloc | apply pw_below_drewN | apply below_drew1 | refine below_set ?_ GE118.out | refine below_set ?_ GE122.out) | exact HB.out)⟩⟩
         ·rw [if_neg c11] at H
          exact absurd H (by simp)
        ·rw [if_neg c9] at H
         exact absurd H (by simp)
       ·rw [if_neg c7] at H
        exact absurd H (by simp)
      ·rw [if_neg c6] at H
       exact absurd H (by simp)
     ·rw [if_neg c5] at H
      exact absurd H (by simp)
    ·rw [if_neg c4] at H
     exact absurd H (by simp)
   ·rw [if_neg c3] at H
    have c3b0 : decide (x6_1 < a0) = false := decide_eq_false c3
    clear c3
    obtain rfl := Option.some.inj H
    go_wp2
    go_ret
    exact ⟨_, by first | rfl | (simp [errW_none, errW_some] <;> rfl) | (simp [*, errW_none, errW_some] <;> rfl), by (with_reducible repeat (first | apply Kd.N_alloc | apply Kd.N_drewN | apply Kd.N_drew)); exact HO_5.out, by repeat (first | (with_reducible first | exact HB.out | apply below_alloc | apply pw_below_drewN | apply below_drew1) | exact HB.out)⟩
end Go.Proofs.Ytmcfcmijopbinaa.PWholeMore
