-- Written by a program of this session (myprint.py) out of the translation, with contracts of this session given.
import Derived.Test.YtmcfcmijopbinaaPWholeTimesx0
namespace Go.Proofs
theorem Z2z0 {p : Prop} (h : p := by first | rfl | (simp; done) | (simp [*]; done)) : p := h
theorem Z2z1 {p : Prop} (h : p := by first | (with_reducible assumption) | assumption) : p := h
theorem Z2z2 {p : Prop} (h : p := by (with_reducible repeat (first | apply Kd.N_alloc | apply Kd.N_drewN | apply Kd.N_drew)); exact HO_5.out) : p := h
theorem Z2z3 {p : Prop} (h : p := by repeat (first | (with_reducible first | exact HB.out | apply below_alloc | apply pw_below_drewN | apply below_drew1) | exact HB.out)) : p := h
theorem Z2z4 {p : Prop} (h : p := by (with_reducible repeat (first | apply Kd.R_alloc | apply Kd.R_drewN | apply Kd.R_drew)); exact HO103.out) : p := h
theorem Z2z5 {p : Prop} (h : p := by (with_reducible repeat (first | apply Kd.R_alloc | apply Kd.R_drewN | apply Kd.R_drew)); exact (Kd.R_mono (Kd.R_far (p := ⟨gb104, 1, none⟩) (Kd.R_far (p := ⟨gb104, 0, none⟩) (Kd.R_types HO103.out BK104.out (by decide)) (fun _ hk => hk.2) (.slice Ao14 y101.length co14)) (fun _ hk => hk.2) (.int .i64 (wrap64 (-a1)))) (fun _ h_ => h_.1))) : p := h
theorem Z2z6 {p : Prop} (h : p := by repeat (first | (with_reducible first | exact HB.out | apply below_alloc | apply pw_below_drewN | apply below_drew1 | refine below_set ?_ GE104.out) | exact HB.out)) : p := h
theorem Z2z7 {p : Prop} (h : p := by (with_reducible repeat (first | apply Kd.R_alloc | apply Kd.R_drewN | apply Kd.R_drew)); exact HO107.out) : p := h
theorem Z2z8 {p : Prop} (h : p := by (with_reducible repeat (first | refine blk_drewN ?_ _ | refine blk_drew ?_ | refine blk_alloc ?_ _)); exact BK104.out) : p := h
theorem Z2z9 {p : Prop} (h : p := by repeat (first | (with_reducible first | exact HB.out | apply below_alloc | apply pw_below_drewN | apply below_drew1 | refine below_set ?_ GE104.out | refine below_set ?_ GE108.out) | exact HB.out)) : p := h
theorem Z2za {p : Prop} (h : p := by (with_reducible repeat (first | refine blk_drewN ?_ _ | refine blk_drew ?_ | refine blk_alloc ?_ _)); exact BK108.out) : p := h
theorem Z2zb {p : Prop} (h : p := by (try simp only [List.map_toArray, List.map_cons, List.map_nil]); first | done | rfl | (simp only [List.length_drop, List.length_take]; rfl)) : p := h
theorem Z2zc {p : Prop} (h : p := by (with_reducible repeat (first | apply Kd.N_alloc | apply Kd.N_drewN | apply Kd.N_drew)); exact HO120.out) : p := h
theorem Z2zd {p : Prop} (h : p := by (with_reducible repeat (first | apply Kd.R_alloc | apply Kd.R_drewN | apply Kd.R_drew)); exact HO123.out) : p := h
end Go.Proofs
namespace Go.Proofs.Ytmcfcmijopbinaa.PWholeTimes
open Go.RowKit Go.Proofs.Ytmcfcmijopbinaa.Given Go.Proofs.Ytmcfcmijopbinaa.Ln Go.Proofs.YtmcfcmijopbinaaW.PrintWords Go.Proofs.YtmcfcmijopbinaaW.PrintLast Go.Proofs.YtmcfcmijopbinaaW.PrintMore
attribute [local go_sem] max2_int min2_int max_two min_two max_three min_three max_four min_four
set_option linter.unusedVariables false
set_option linter.unusedSimpArgs false
def ashlarlaw12_box.l0 : Nat → Int → Int → List (S25) → Int → Option ((List (S25)))
 | 0, _, _, _, _ => none
 | k + 1, x0, x1, x5, x6 => if x6 < x0 then (if 0 ≤ x0 then (if (x0 : Int).toNat ≤ 35184372088832 then ((some (List.replicate (x0 : Int).toNat 0 : List Int)).bind fun y101 => ((some (List.replicate (x0 : Int).toNat 0 : List Int)).bind fun y105 => (if 0 ≤ x6 then (if x6 < (y101.length : Int) then (if x6 < (y105.length : Int) then ((some (([(⟨(y101.set (x6 : Int).toNat 1), wrap64 (-x1)⟩ : S25), (⟨(y105.set (x6 : Int).toNat (-1)), wrap64 (-x1)⟩ : S25)] : List (S25)) : List (S25))).bind fun y111 => (if x5.length + y111.length < 4398046511104 then (ashlarlaw12_box.l0 k x0 x1 (x5 ++ y111) (wrap64 (x6 + 1))) else (none))) else (none)) else (none)) else (none)))) else (none)) else (none)) else (some x5)
def ashlarlaw12_box.f (k : Nat) (a0 : Int) (a1 : Int) : Option ((List (S25))) := ashlarlaw12_box.l0 k a0 a1 ([] : List (S25)) 0
theorem ashlarlaw12_box.mono_l : ∀ k, (∀ y0 y1 y2 y3, LeO (ashlarlaw12_box.l0 k y0 y1 y2 y3) (ashlarlaw12_box.l0 (k + 1) y0 y1 y2 y3))
 | 0 => fun _ _ _ _ r h => by simp [ashlarlaw12_box.l0] at h
 | k + 1 => by
  have ih0 := ashlarlaw12_box.mono_l k
  ·intro y0 y1 y2 y3
   unfold ashlarlaw12_box.l0
   repeat' first
   | (with_reducible exact ih0 _ _ _ _)
   | (with_reducible exact LeO.refl _)
   | (with_reducible exact LeO.none _)
   | (with_reducible refine LeO.ite ?_ ?_)
   | (with_reducible refine LeO.bind ?_ (fun _ => ?_))
   | exact ih0 _ _ _ _
   | exact LeO.none _
   | refine LeO.ite ?_ ?_
   | refine LeO.bind ?_ (fun _ => ?_)
theorem ashlarlaw12_box.mono : ∀ a0 a1 k, LeO (ashlarlaw12_box.f k a0 a1) (ashlarlaw12_box.f (k + 1) a0 a1) := by
 intro a0 a1 k
 have ih0 := ashlarlaw12_box.mono_l k
 unfold ashlarlaw12_box.f
 repeat' first
   | (with_reducible exact ih0 _ _ _ _)
   | (with_reducible exact LeO.refl _)
   | (with_reducible exact LeO.none _)
   | (with_reducible refine LeO.ite ?_ ?_)
   | (with_reducible refine LeO.bind ?_ (fun _ => ?_))
   | exact ih0 _ _ _ _
   | exact LeO.none _
   | refine LeO.ite ?_ ?_
   | refine LeO.bind ?_ (fun _ => ?_)
set_option maxHeartbeats 8000000 in
set_option maxRecDepth 100000 in
theorem ashlarlaw12_box.calls (k : Nat) (a0 : Int) (a1 : Int) (r : List (S25)) (w : World) (h : ashlarlaw12_box.f k a0 a1 = some r) :
  Calls Try.prog 8 #[.int .i64 a0, .int .i64 a1] w fun e w' => ∃ v0_ : Value, e = .returned (v0_) ∧ Kd.N k25 25 w' w.heap.size (fun k_ => (w.heap.size ≤ k_)) v0_ r ∧ Below w.heap.size w w' := by
 have hu25 := Try.underlying25
 have HB := Aside0.mk (Below.refl w.heap.size w)
 have H : (ashlarlaw12_box.l0 k a0 a1 ([] : List (S25)) 0) = some r := h
 clear h
 have H' := Aside0.mk H
 clear H
 go_enter Try.func8, Try.ntmps8
 go_wp2
 go_loopg [5, 6] k (fun kq v5 v6 w' => ∃ (x5_1 : List (S25)) (x6_1 : Int), v6 = .int .i64 x6_1 ∧ Aside0 (ashlarlaw12_box.l0 kq a0 a1 x5_1 x6_1 = some r) ∧ Aside0 (kq ≤ k) ∧ Aside0 (Kd.N k25 25 w' w.heap.size (fun k_ => (w.heap.size ≤ k_)) v5 x5_1) ∧ Aside0 (Below w.heap.size w w'))
 case atStart => exact ⟨(([] : List (S25))), (0), Z2z0, H', ⟨Nat.le_refl _⟩, ⟨by first | exact Kd.S_nil _ _ _ _ _ | exact Kd.N_nil _ _ _ _ _ | exact Kd.V_nil _ _ _ _ _ | exact Kd.Q_nil _ _ _ _ _ | exact Kd.R_nil _ _ _ _ _⟩, ⟨by repeat (first | (with_reducible first | exact HB.out | apply below_alloc | apply pw_below_drewN | apply below_drew1) | exact HB.out)⟩⟩
 case round =>
  clear H'
  try clear p2
  obtain ⟨x5_1, x6_1, rfl, HA, HK1, HO_5, HB⟩ := hrel
  cases gk with
  | zero => exact absurd HA.out (by simp [ashlarlaw12_box.l0])
  | succ k1 =>
   have H := HA.out
   clear HA
   simp only [ashlarlaw12_box.l0] at H
   by_cases c3 : x6_1 < a0
   ·rw [if_pos c3] at H
    have c3b0 : decide (x6_1 < a0) = true := decide_eq_true c3
    clear c3
    by_cases c4 : 0 ≤ a0
    ·rw [if_pos c4] at H
     have c4b0 := eq_true c4
     have c4b1 : decide (0 ≤ a0) = true := decide_eq_true c4
     clear c4
     by_cases c5 : (a0 : Int).toNat ≤ 35184372088832
     ·rw [if_pos c5] at H
      have c5b0 := eq_true c5
      have c5b1 : decide ((a0 : Int).toNat ≤ 35184372088832) = true := decide_eq_true c5
      clear c5
      obtain ⟨y101, hy101⟩ : ∃ y_ : List Int, y_ = (List.replicate (a0 : Int).toNat 0) := ⟨_, rfl⟩
      replace H : ((some (List.replicate (a0 : Int).toNat 0 : List Int)).bind fun y105 => (if 0 ≤ x6_1 then (if x6_1 < (y101.length : Int) then (if x6_1 < (y105.length : Int) then ((some (([(⟨(y101.set (x6_1 : Int).toNat 1), wrap64 (-a1)⟩ : S25), (⟨(y105.set (x6_1 : Int).toNat (-1)), wrap64 (-a1)⟩ : S25)] : List (S25)) : List (S25))).bind fun y111 => (if x5_1.length + y111.length < 4398046511104 then (ashlarlaw12_box.l0 k1 a0 a1 (x5_1 ++ y111) (wrap64 (x6_1 + 1))) else (none))) else (none)) else (none)) else (none))) = some r := by first | (rw [hy101]; with_reducible exact H) | (have H2_ := (Option.bind_some _ _).symm.trans H; rw [hy101]; with_reducible exact H2_) | (have H2_ := (Option.bind_some _ _).symm.trans H; with_reducible exact H2_) | with_reducible exact H | (rw [hy101]; exact H) | exact H
      have Ny101 := Aside0.mk hy101
      clear hy101
      obtain ⟨y105, hy105⟩ : ∃ y_ : List Int, y_ = (List.replicate (a0 : Int).toNat 0) := ⟨_, rfl⟩
      replace H : (if 0 ≤ x6_1 then (if x6_1 < (y101.length : Int) then (if x6_1 < (y105.length : Int) then ((some (([(⟨(y101.set (x6_1 : Int).toNat 1), wrap64 (-a1)⟩ : S25), (⟨(y105.set (x6_1 : Int).toNat (-1)), wrap64 (-a1)⟩ : S25)] : List (S25)) : List (S25))).bind fun y111 => (if x5_1.length + y111.length < 4398046511104 then (ashlarlaw12_box.l0 k1 a0 a1 (x5_1 ++ y111) (wrap64 (x6_1 + 1))) else (none))) else (none)) else (none)) else (none)) = some r := by first | (rw [hy105]; with_reducible exact H) | (have H2_ := (Option.bind_some _ _).symm.trans H; rw [hy105]; with_reducible exact H2_) | (have H2_ := (Option.bind_some _ _).symm.trans H; with_reducible exact H2_) | with_reducible exact H | (rw [hy105]; exact H) | exact H
      have Ny105 := Aside0.mk hy105
      clear hy105
      by_cases c6 : 0 ≤ x6_1
      ·rw [if_pos c6] at H
       have c6b0 : decide (0 ≤ x6_1) = true := decide_eq_true c6
       clear c6
       by_cases c7 : x6_1 < (y101.length : Int)
       ·rw [if_pos c7] at H
        have c7b0 : decide (x6_1 < (y101.length : Int)) = true := decide_eq_true c7
        clear c7
        obtain ⟨y109, hy109⟩ : ∃ y_ : List Int, y_ = (y101.set (x6_1 : Int).toNat 1) := ⟨_, rfl⟩
        replace H : (if x6_1 < (y105.length : Int) then ((some (([(⟨y109, wrap64 (-a1)⟩ : S25), (⟨(y105.set (x6_1 : Int).toNat (-1)), wrap64 (-a1)⟩ : S25)] : List (S25)) : List (S25))).bind fun y111 => (if x5_1.length + y111.length < 4398046511104 then (ashlarlaw12_box.l0 k1 a0 a1 (x5_1 ++ y111) (wrap64 (x6_1 + 1))) else (none))) else (none)) = some r := by first | (rw [hy109]; with_reducible exact H) | (have H2_ := (Option.bind_some _ _).symm.trans H; rw [hy109]; with_reducible exact H2_) | (have H2_ := (Option.bind_some _ _).symm.trans H; with_reducible exact H2_) | with_reducible exact H | (rw [hy109]; exact H) | exact H
        have Ny109 := Aside0.mk hy109
        clear hy109
        by_cases c9 : x6_1 < (y105.length : Int)
        ·rw [if_pos c9] at H
         have c9b0 : decide (x6_1 < (y105.length : Int)) = true := decide_eq_true c9
         clear c9
         obtain ⟨y110, hy110⟩ : ∃ y_ : List Int, y_ = (y105.set (x6_1 : Int).toNat (-1)) := ⟨_, rfl⟩
         replace H : ((some (([(⟨y109, wrap64 (-a1)⟩ : S25), (⟨y110, wrap64 (-a1)⟩ : S25)] : List (S25)) : List (S25))).bind fun y111 => (if x5_1.length + y111.length < 4398046511104 then (ashlarlaw12_box.l0 k1 a0 a1 (x5_1 ++ y111) (wrap64 (x6_1 + 1))) else (none))) = some r := by first | (rw [hy110]; with_reducible exact H) | (have H2_ := (Option.bind_some _ _).symm.trans H; rw [hy110]; with_reducible exact H2_) | (have H2_ := (Option.bind_some _ _).symm.trans H; with_reducible exact H2_) | with_reducible exact H | (rw [hy110]; exact H) | exact H
         have Ny110 := Aside0.mk hy110
         clear hy110
         obtain ⟨y111, hy111⟩ : ∃ y_ : List (S25), y_ = (([(⟨y109, wrap64 (-a1)⟩ : S25), (⟨y110, wrap64 (-a1)⟩ : S25)] : List (S25))) := ⟨_, rfl⟩
         replace H : (if x5_1.length + y111.length < 4398046511104 then (ashlarlaw12_box.l0 k1 a0 a1 (x5_1 ++ y111) (wrap64 (x6_1 + 1))) else (none)) = some r := by first | (rw [hy111]; with_reducible exact H) | (have H2_ := (Option.bind_some _ _).symm.trans H; rw [hy111]; with_reducible exact H2_) | (have H2_ := (Option.bind_some _ _).symm.trans H; with_reducible exact H2_) | with_reducible exact H | (rw [hy111]; exact H) | exact H
         have Ny111 := Aside0.mk hy111
         clear hy111
         by_cases c11 : x5_1.length + y111.length < 4398046511104
         ·rw [if_pos c11] at H
          have LMc11 := Aside0.mk c11
          clear c11
          obtain ⟨y114, hy114⟩ : ∃ y_ : List (S25), y_ = (x5_1 ++ y111) := ⟨_, rfl⟩
          replace H : (ashlarlaw12_box.l0 k1 a0 a1 y114 (wrap64 (x6_1 + 1))) = some r := by first | (rw [hy114]; with_reducible exact H) | (have H2_ := (Option.bind_some _ _).symm.trans H; rw [hy114]; with_reducible exact H2_) | (have H2_ := (Option.bind_some _ _).symm.trans H; with_reducible exact H2_) | with_reducible exact H | (rw [hy114]; exact H) | exact H
          have Ny114 := Aside0.mk hy114
          clear hy114
          have H' := Aside0.mk H
          clear H
          go_wp2_with (first | ((with_reducible refine gate_dst (N := 15) rfl ?_); refine Kd.R_make (Kd.int .i64) _ 2 rfl (N := 15) rfl 23 _ _ rfl a0 rfl rfl Try.underlying23 (.int .i64 0) 8 info2 rfl (by decide) (by omega) 0 (ok := fun _ => True) (okp := fun _ => True) rfl (fun _ hk => hk) trivial (of_decide_eq_true Z2z1) (Nat.le_trans (Nat.mul_le_mul_right _ (of_decide_eq_true Z2z1 : a0.toNat ≤ 35184372088832)) (by omega)) (Below.refl _ _) (Nat.le_refl _) ?_; intro v102 w12 ho13 hb hg_ hnew_; clear hg_ hnew_; (first | rw [← Ny101.out] at ho13 | (simp only [Int.reduceToNat] at ho13; rw [← Ny101.out] at ho13)); have n0_ := Aside0.mk (Kd.N_elder' Z2z2 (Kd.R_base ho13) hb); have n1_ := Aside0.mk (Kd.R_lower (Kd.R_newM (M := fun k_ => (w.heap.size ≤ k_)) ho13 (below_size Z2z3) (fun k_ h_ => h_)) (below_size Z2z3)); have n2_ := Aside0.mk (below_step Z2z3 hb); clear HO_5; clear HB; have HO_5 := n0_; have HO103 := n1_; have HB := n2_; clear n0_ n1_ n2_; clear hb ho13; obtain ⟨Ao14, co14, eo14⟩ := Kd.R_slice HO103.out; subst eo14) | ((with_reducible refine gate_dst (N := 7) rfl ?_); refine box_event ?hg (N := 7) ?hd (cs := #[.slice none 0 0, .int .i64 0]) (t := 25) ?hr ?_; (case hd => rfl); (case hg => rfl); (case hr => first | (go_simp; done) | (go_simp; rfl)); intro gb104 hg w15 hbox hb; have n0_ := Aside0.mk (Kd.N_below (Kd.N_elderB Z2z2 gb104 (Nat.le_of_eq hg.symm)) hb); have n1_ := Aside0.mk (Kd.R_below Z2z4 hb); have n2_ := Aside0.mk (below_step Z2z3 hb); have n3_ := Aside0.mk (hbox); have n4_ := Aside0.mk ((by rw [hg]; exact (below_size Z2z3) : w.heap.size ≤ gb104)); have n5_ := Aside0.mk ((by rw [hg]; exact (below_size Z2z3) : w.heap.size ≤ gb104)); clear HO_5; clear HO103; clear HB; have HO_5 := n0_; have HO103 := n1_; have HB := n2_; have BK104 := n3_; have GW104 := n4_; have GE104 := n5_; clear n0_ n1_ n2_ n3_ n4_ n5_; clear hb hbox hg; have hcz16_0 : w15.cell? ⟨gb104, 0, none⟩ = some (.slice none 0 0) := (blk_cell BK104.out 0).trans rfl; have hcz16_1 : w15.cell? ⟨gb104, 1, none⟩ = some (.int .i64 0) := (blk_cell BK104.out 1).trans rfl; have hfz16_0 := blk_frozen BK104.out 0; have hfz16_1 := blk_frozen BK104.out 1) | ((with_reducible refine gate_dst (N := 20) rfl ?_); refine Kd.R_make (Kd.int .i64) _ 2 rfl (N := 20) rfl 23 _ _ rfl a0 rfl rfl Try.underlying23 (.int .i64 0) 8 info2 rfl (by decide) (by omega) 0 (ok := fun _ => True) (okp := fun _ => True) rfl (fun _ hk => hk) trivial (of_decide_eq_true Z2z1) (Nat.le_trans (Nat.mul_le_mul_right _ (of_decide_eq_true Z2z1 : a0.toNat ≤ 35184372088832)) (by omega)) (Below.refl _ _) (Nat.le_refl _) ?_; intro v106 w17 ho18 hb hg_ hnew_; clear hg_ hnew_; (first | rw [← Ny105.out] at ho18 | (simp only [Int.reduceToNat] at ho18; rw [← Ny105.out] at ho18)); have n0_ := Aside0.mk (Kd.N_elder' (by (with_reducible repeat (first | apply Kd.N_alloc | apply Kd.N_drewN | apply Kd.N_drew)); exact (Kd.N_mono (Kd.N_far (p := ⟨gb104, 1, none⟩) (Kd.N_far (p := ⟨gb104, 0, none⟩) (Kd.N_mono HO_5.out (fun k_ hk => (⟨hk, hk.2⟩ : _ ∧ k_ ≠ gb104))) (fun _ hk => hk.2) (.slice Ao14 y101.length co14)) (fun _ hk => hk.2) (.int .i64 (wrap64 (-a1)))) (fun _ h_ => h_.1))) (Kd.R_base ho18) hb); have n1_ := Aside0.mk (Kd.R_elder' Z2z5 (Kd.R_base ho18) hb); have n2_ := Aside0.mk (Kd.R_lower (Kd.R_new' (Kd.R_newM (M := fun k_ => (w.heap.size ≤ k_)) ho18 (below_size Z2z6) (fun k_ h_ => h_)) (Kd.R_lt Z2z5)) (below_size Z2z6)); have n3_ := Aside0.mk (blk_below (g := gb104) (o := .cells #[.slice Ao14 y101.length co14, .int .i64 (wrap64 (-a1))] 25 (0, 0)) (by (with_reducible repeat (first | refine blk_drewN ?_ _ | refine blk_drew ?_ | refine blk_alloc ?_ _)); refine blk_put (cs := #[.slice Ao14 y101.length co14, .int .i64 0]) ?_ 1 _ rfl; (with_reducible repeat (first | refine blk_drewN ?_ _ | refine blk_drew ?_ | refine blk_alloc ?_ _)); refine blk_put (cs := #[.slice none 0 0, .int .i64 0]) ?_ 0 _ rfl; (with_reducible repeat (first | refine blk_drewN ?_ _ | refine blk_drew ?_ | refine blk_alloc ?_ _)); exact BK104.out) hb); have n4_ := Aside0.mk (below_step Z2z6 hb); clear HO_5; clear HO103; clear BK104; clear HB; have HO_5 := n0_; have HO103 := n1_; have HO107 := n2_; have BK104 := n3_; have HB := n4_; clear n0_ n1_ n2_ n3_ n4_; clear hb ho18; obtain ⟨Ao19, co19, eo19⟩ := Kd.R_slice HO107.out; subst eo19) | ((with_reducible refine gate_dst (N := 8) rfl ?_); refine box_event ?hg (N := 8) ?hd (cs := #[.slice none 0 0, .int .i64 0]) (t := 25) ?hr ?_; (case hd => rfl); (case hg => rfl); (case hr => first | (go_simp; done) | (go_simp; rfl)); intro gb108 hg w20 hbox hb; have n0_ := Aside0.mk (Kd.N_below (Kd.N_elderB Z2z2 gb108 (Nat.le_of_eq hg.symm)) hb); have n1_ := Aside0.mk (Kd.R_below Z2z4 hb); have n2_ := Aside0.mk (Kd.R_below Z2z7 hb); have n3_ := Aside0.mk (blk_below (g := gb104) (o := .cells #[.slice Ao14 y101.length co14, .int .i64 (wrap64 (-a1))] 25 (0, 0)) Z2z8 hb); have n4_ := Aside0.mk (below_step Z2z6 hb); have n5_ := Aside0.mk (hbox); have n6_ := Aside0.mk ((by rw [hg]; exact (below_size Z2z6) : w.heap.size ≤ gb108)); have n7_ := Aside0.mk ((by rw [hg]; exact (below_size Z2z6) : w.heap.size ≤ gb108)); have n8_ := Aside0.mk ((by rw [hg]; exact Nat.ne_of_lt (blk_lt (g := gb104) (o := .cells #[.slice Ao14 y101.length co14, .int .i64 (wrap64 (-a1))] 25 (0, 0)) Z2z8) : gb104 ≠ gb108)); have n9_ := Aside0.mk ((by rw [hg]; exact Nat.ne_of_gt (blk_lt (g := gb104) (o := .cells #[.slice Ao14 y101.length co14, .int .i64 (wrap64 (-a1))] 25 (0, 0)) Z2z8) : gb108 ≠ gb104)); clear HO_5; clear HO103; clear HO107; clear BK104; clear HB; have HO_5 := n0_; have HO103 := n1_; have HO107 := n2_; have BK104 := n3_; have HB := n4_; have BK108 := n5_; have GW108 := n6_; have GE108 := n7_; have NB104_108 := n8_; have NB108_104 := n9_; clear n0_ n1_ n2_ n3_ n4_ n5_ n6_ n7_ n8_ n9_; clear hb hbox hg; have hnb21 := NB108_104.out; have hnc21 := NB104_108.out; have hcz22_0 : w20.cell? ⟨gb108, 0, none⟩ = some (.slice none 0 0) := (blk_cell BK108.out 0).trans rfl; have hcz22_1 : w20.cell? ⟨gb108, 1, none⟩ = some (.int .i64 0) := (blk_cell BK108.out 1).trans rfl; have hfz22_0 := blk_frozen BK108.out 0; have hfz22_1 := blk_frozen BK108.out 1) | ((with_reducible refine gate_store (t := 25) (p := 8) rfl ?_); refine store_event (t := 25) (p := 8) (v := ?vo_w23) (w1 := ((w20.setCell ⟨gb108, 0, none⟩ (.slice Ao19 y105.length co19)).setCell ⟨gb108, 1, none⟩ (.int .i64 (wrap64 (-a1))))) ?hg ?ho ?hn ?hr ?_; (case ho => rfl); (case hg => rfl); (case hn => rfl); (case hr => first | (go_simp; done) | (go_simp; rfl)); intro w23 hw; have n0_ : Aside0 (Kd.N k25 25 w23 w.heap.size (fun k_ => (w.heap.size ≤ k_) ∧ some k_ ≠ (.slice Ao14 y101.length co14 : Value).ownBlock ∧ some k_ ≠ (.slice Ao19 y105.length co19 : Value).ownBlock ∧ k_ ≠ gb104 ∧ k_ ≠ gb108) u5 x5_1) := ⟨(by rw [hw]; exact (by (with_reducible repeat (first | apply Kd.N_alloc | apply Kd.N_drewN | apply Kd.N_drew)); exact Kd.N_mono (Kd.N_far (p := ⟨gb108, 1, none⟩) (Kd.N_far (p := ⟨gb108, 0, none⟩) (Kd.N_mono HO_5.out (fun k_ hk => (⟨hk, hk.2⟩ : _ ∧ k_ ≠ gb108))) (fun _ hk => hk.2) (.slice Ao19 y105.length co19)) (fun _ hk => hk.2) (.int .i64 (wrap64 (-a1)))) (fun _ hk => ⟨hk.1.1.1.1.1, ⟨hk.1.1.1.1.2, ⟨hk.1.1.2, ⟨hk.1.1.1.2, hk.1.2⟩⟩⟩⟩)))⟩; have n1_ : Aside0 (Kd.R (Kd.int .i64) 2 w23 w.heap.size (fun k_ => (w.heap.size ≤ k_) ∧ some k_ ≠ (.slice Ao19 y105.length co19 : Value).ownBlock) (.slice Ao14 y101.length co14) y101) := ⟨(by rw [hw]; exact (by (with_reducible repeat (first | apply Kd.R_alloc | apply Kd.R_drewN | apply Kd.R_drew)); exact Kd.R_mono (Kd.R_far (p := ⟨gb108, 1, none⟩) (Kd.R_far (p := ⟨gb108, 0, none⟩) (Kd.R_types HO103.out BK108.out (by decide)) (fun _ hk => hk.2) (.slice Ao19 y105.length co19)) (fun _ hk => hk.2) (.int .i64 (wrap64 (-a1)))) (fun _ hk => ⟨hk.1.1.1, hk.1.2⟩)))⟩; have n2_ : Aside0 (Kd.R (Kd.int .i64) 2 w23 w.heap.size (fun k_ => (w.heap.size ≤ k_) ∧ some k_ ≠ (.slice Ao14 y101.length co14 : Value).ownBlock) (.slice Ao19 y105.length co19) y105) := ⟨(by rw [hw]; exact (by (with_reducible repeat (first | apply Kd.R_alloc | apply Kd.R_drewN | apply Kd.R_drew)); exact Kd.R_mono (Kd.R_far (p := ⟨gb108, 1, none⟩) (Kd.R_far (p := ⟨gb108, 0, none⟩) (Kd.R_types HO107.out BK108.out (by decide)) (fun _ hk => hk.2) (.slice Ao19 y105.length co19)) (fun _ hk => hk.2) (.int .i64 (wrap64 (-a1)))) (fun _ hk => ⟨hk.1.1.1, hk.1.2⟩)))⟩; have n3_ : Aside0 (w23.heap[gb104]? = some (.cells #[.slice Ao14 y101.length co14, .int .i64 (wrap64 (-a1))] 25 (0, 0))) := ⟨(by rw [hw]; exact (by (with_reducible repeat (first | refine blk_drewN ?_ _ | refine blk_drew ?_ | refine blk_alloc ?_ _)); refine blk_far ?_ NB104_108.out _; (with_reducible repeat (first | refine blk_drewN ?_ _ | refine blk_drew ?_ | refine blk_alloc ?_ _)); refine blk_far ?_ NB104_108.out _; (with_reducible repeat (first | refine blk_drewN ?_ _ | refine blk_drew ?_ | refine blk_alloc ?_ _)); exact BK104.out))⟩; have n4_ : Aside0 (w23.heap[gb108]? = some (.cells #[.slice Ao19 y105.length co19, .int .i64 (wrap64 (-a1))] 25 (0, 0))) := ⟨(by rw [hw]; exact (by (with_reducible repeat (first | refine blk_drewN ?_ _ | refine blk_drew ?_ | refine blk_alloc ?_ _)); refine blk_put (cs := #[.slice Ao19 y105.length co19, .int .i64 0]) ?_ 1 _ rfl; (with_reducible repeat (first | refine blk_drewN ?_ _ | refine blk_drew ?_ | refine blk_alloc ?_ _)); refine blk_put (cs := #[.slice none 0 0, .int .i64 0]) ?_ 0 _ rfl; (with_reducible repeat (first | refine blk_drewN ?_ _ | refine blk_drew ?_ | refine blk_alloc ?_ _)); exact BK108.out))⟩; have n5_ : Aside0 (Below w.heap.size w w23) := ⟨(by rw [hw]; exact Z2z9)⟩; clear hw; clear HO_5; clear HO103; clear HO107; clear BK104; clear BK108; clear HB; have HO_5 := n0_; have HO103 := n1_; have HO107 := n2_; have BK104 := n3_; have BK108 := n4_; have HB := n5_; clear n0_ n1_ n2_ n3_ n4_ n5_; have hcz24_0 : w23.cell? ⟨gb104, 0, none⟩ = some (.slice Ao14 y101.length co14) := (blk_cell BK104.out 0).trans rfl; have hcz24_1 : w23.cell? ⟨gb104, 1, none⟩ = some (.int .i64 (wrap64 (-a1))) := (blk_cell BK104.out 1).trans rfl; have hfz24_0 := blk_frozen BK104.out 0; have hfz24_1 := blk_frozen BK104.out 1; have p8 : 0 ≤ (x6_1 : Int) := of_decide_eq_true Z2z1; have q8 : (x6_1 : Int) < ((y101.length : Int) : Int) := of_decide_eq_true Z2z1; obtain ⟨go8, co8, eo8, gb8, gl8, cl8, HG8⟩ := Kd.R_form HO103.out (by omega); (first | cases eo8 | (injection eo8 with ea_ en_ ec_; (first | subst ea_ | (injection ea_ with ea_; subst ea_)); subst ec_; clear en_)); have GB8 := Aside0.mk gb8; have GG8 := Aside0.mk HG8; clear gb8 gl8 HG8; obtain ⟨hx8_0, hf8_0⟩ := Kd.R_celln 0 HO103.out (x6_1 : Int) p8 q8; replace p8 := eq_true p8; replace q8 := eq_true q8; obtain ⟨hy25_, hz25_⟩ := Kd.R_celln 0 HO103.out (x6_1 : Int) (of_decide_eq_true Z2z1) (of_decide_eq_true Z2z1); have HP25 := Kd.R_putg HO103.out (x6_1 : Int) 1) | ((with_reducible refine gate_store (t := 2) (p := 27) rfl ?_); refine store_event (t := 2) (p := 27) (v := ?vo_w26) (w1 := (w23.setCell ⟨go8, (x6_1 : Int).toNat, none⟩ (.int .i64 1))) ?hg ?ho ?hn ?hr ?_; (case ho => rfl); (case hg => rfl); (case hn => rfl); (case hr => first | (go_simp; done) | (go_simp; rfl)); intro w26 hw; have hg : w23.grownBy w26 (some go8) := (by rw [hw]; exact HP25.2); have hp_ : Kd.R (Kd.int .i64) 2 w26 w.heap.size (fun k_ => (w.heap.size ≤ k_) ∧ some k_ ≠ (.slice Ao19 y105.length co19 : Value).ownBlock) (.slice (some ⟨go8, 0, none⟩) y101.length co14) y109 := (by rw [hw, Ny109.out]; exact HP25.1); clear HP25; have n0_ := Aside0.mk (Kd.N_afterv (v := (.slice (some ⟨go8, 0, none⟩) y101.length co14)) (v1 := (.slice (some ⟨go8, 0, none⟩) y101.length co14)) (ok := (fun k_ => (w.heap.size ≤ k_) ∧ some k_ ≠ (.slice Ao19 y105.length co19 : Value).ownBlock ∧ k_ ≠ gb104 ∧ k_ ≠ gb108)) (by (with_reducible repeat (first | apply Kd.N_alloc | apply Kd.N_drewN | apply Kd.N_drew)); exact Kd.N_mono HO_5.out (fun _ hk => ⟨⟨hk.1, ⟨hk.2.2.1, ⟨hk.2.2.2.1, hk.2.2.2.2⟩⟩⟩, hk.2.1⟩)) hg (.inl rfl)); have n1_ := Aside0.mk (hp_); have n2_ := Aside0.mk (blk_grown (g := gb104) (o := .cells #[.slice (some ⟨go8, 0, none⟩) y101.length co14, .int .i64 (wrap64 (-a1))] 25 (0, 0)) Z2z8 hg (Kd.R_ne HO103.out BK104.out (by decide))); have n3_ := Aside0.mk (Kd.R_after (v := (.slice (some ⟨go8, 0, none⟩) y101.length co14)) (v1 := (.slice (some ⟨go8, 0, none⟩) y101.length co14)) (ok := (fun k_ => (w.heap.size ≤ k_))) Z2z7 hg (.inl rfl)); have n4_ := Aside0.mk (blk_grown (g := gb108) (o := .cells #[.slice Ao19 y105.length co19, .int .i64 (wrap64 (-a1))] 25 (0, 0)) Z2za hg (Kd.R_ne HO103.out BK108.out (by decide))); have n5_ := Aside0.mk ((by rw [hw]; exact below_set (HB.out) GB8.out : Below w.heap.size w w26)); clear HO_5; clear HO103; clear BK104; clear HO107; clear BK108; clear HB; have HO_5 := n0_; have HO103 := n1_; have BK104 := n2_; have HO107 := n3_; have BK108 := n4_; have HB := n5_; clear n0_ n1_ n2_ n3_ n4_ n5_; clear hg hw hp_; have hcz27_0 : w26.cell? ⟨gb108, 0, none⟩ = some (.slice Ao19 y105.length co19) := (blk_cell BK108.out 0).trans rfl; have hcz27_1 : w26.cell? ⟨gb108, 1, none⟩ = some (.int .i64 (wrap64 (-a1))) := (blk_cell BK108.out 1).trans rfl; have hfz27_0 := blk_frozen BK108.out 0; have hfz27_1 := blk_frozen BK108.out 1; have p10 : 0 ≤ (x6_1 : Int) := of_decide_eq_true Z2z1; have q10 : (x6_1 : Int) < ((y105.length : Int) : Int) := of_decide_eq_true Z2z1; obtain ⟨go10, co10, eo10, gb10, gl10, cl10, HG10⟩ := Kd.R_form HO107.out (by omega); (first | cases eo10 | (injection eo10 with ea_ en_ ec_; (first | subst ea_ | (injection ea_ with ea_; subst ea_)); subst ec_; clear en_)); have GB10 := Aside0.mk gb10; have GG10 := Aside0.mk HG10; clear gb10 gl10 HG10; obtain ⟨hx10_0, hf10_0⟩ := Kd.R_celln 0 HO107.out (x6_1 : Int) p10 q10; replace p10 := eq_true p10; replace q10 := eq_true q10; obtain ⟨hy28_, hz28_⟩ := Kd.R_celln 0 HO107.out (x6_1 : Int) (of_decide_eq_true Z2z1) (of_decide_eq_true Z2z1); have HP28 := Kd.R_putg HO107.out (x6_1 : Int) (-1)) | ((with_reducible refine gate_store (t := 2) (p := 31) rfl ?_); refine store_event (t := 2) (p := 31) (v := ?vo_w29) (w1 := (w26.setCell ⟨go10, (x6_1 : Int).toNat, none⟩ (.int .i64 (-1)))) ?hg ?ho ?hn ?hr ?_; (case ho => rfl); (case hg => rfl); (case hn => rfl); (case hr => first | (go_simp; done) | (go_simp; rfl)); intro w29 hw; have hg : w26.grownBy w29 (some go10) := (by rw [hw]; exact HP28.2); have hp_ : Kd.R (Kd.int .i64) 2 w29 w.heap.size (fun k_ => (w.heap.size ≤ k_) ∧ some k_ ≠ (.slice (some ⟨go8, 0, none⟩) y101.length co14 : Value).ownBlock) (.slice (some ⟨go10, 0, none⟩) y105.length co19) y110 := (by rw [hw, Ny110.out]; exact HP28.1); clear HP28; have n0_ := Aside0.mk (Kd.N_afterv (v := (.slice (some ⟨go10, 0, none⟩) y105.length co19)) (v1 := (.slice (some ⟨go10, 0, none⟩) y105.length co19)) (ok := (fun k_ => (w.heap.size ≤ k_) ∧ some k_ ≠ (.slice (some ⟨go8, 0, none⟩) y101.length co14 : Value).ownBlock ∧ k_ ≠ gb104 ∧ k_ ≠ gb108)) (by (with_reducible repeat (first | apply Kd.N_alloc | apply Kd.N_drewN | apply Kd.N_drew)); exact Kd.N_mono HO_5.out (fun _ hk => ⟨⟨hk.1.1, ⟨hk.2, ⟨hk.1.2.2.1, hk.1.2.2.2⟩⟩⟩, hk.1.2.1⟩)) hg (.inl rfl)); have n1_ := Aside0.mk (Kd.R_after (v := (.slice (some ⟨go10, 0, none⟩) y105.length co19)) (v1 := (.slice (some ⟨go10, 0, none⟩) y105.length co19)) (ok := (fun k_ => (w.heap.size ≤ k_))) Z2z4 hg (.inl rfl)); have n2_ := Aside0.mk (blk_grown (g := gb104) (o := .cells #[.slice (some ⟨go8, 0, none⟩) y101.length co14, .int .i64 (wrap64 (-a1))] 25 (0, 0)) Z2z8 hg (Kd.R_ne HO107.out BK104.out (by decide))); have n3_ := Aside0.mk (hp_); have n4_ := Aside0.mk (blk_grown (g := gb108) (o := .cells #[.slice (some ⟨go10, 0, none⟩) y105.length co19, .int .i64 (wrap64 (-a1))] 25 (0, 0)) Z2za hg (Kd.R_ne HO107.out BK108.out (by decide))); have n5_ := Aside0.mk ((by rw [hw]; exact below_set (HB.out) GB10.out : Below w.heap.size w w29)); clear HO_5; clear HO103; clear BK104; clear HO107; clear BK108; clear HB; have HO_5 := n0_; have HO103 := n1_; have BK104 := n2_; have HO107 := n3_; have BK108 := n4_; have HB := n5_; clear n0_ n1_ n2_ n3_ n4_ n5_; clear hg hw hp_; have hcz30_0 : w29.cell? ⟨gb104, 0, none⟩ = some (.slice (some ⟨go8, 0, none⟩) y101.length co14) := (blk_cell BK104.out 0).trans rfl; have hcz30_1 : w29.cell? ⟨gb104, 1, none⟩ = some (.int .i64 (wrap64 (-a1))) := (blk_cell BK104.out 1).trans rfl; have hfz30_0 := blk_frozen BK104.out 0; have hfz30_1 := blk_frozen BK104.out 1; have hcz31_0 : w29.cell? ⟨gb108, 0, none⟩ = some (.slice (some ⟨go10, 0, none⟩) y105.length co19) := (blk_cell BK108.out 0).trans rfl; have hcz31_1 : w29.cell? ⟨gb108, 1, none⟩ = some (.int .i64 (wrap64 (-a1))) := (blk_cell BK108.out 1).trans rfl; have hfz31_0 := blk_frozen BK108.out 0; have hfz31_1 := blk_frozen BK108.out 1) | ((with_reducible refine gate_dst (N := 35) rfl ?_); refine Kd.N_lit k25 _ 25 ?hg (N' := 35) ?hd (xs := ([(⟨y109, wrap64 (-a1)⟩ : S25), (⟨y110, wrap64 (-a1)⟩ : S25)] : List (S25))) (inner := [.slice (some ⟨go8, 0, none⟩) y101.length co14, .int .i64 (wrap64 (-a1)), .slice (some ⟨go10, 0, none⟩) y105.length co19, .int .i64 (wrap64 (-a1))]) (ok := (fun k_ => (w.heap.size ≤ k_) ∧ some k_ ≠ (u5 : Value).ownBlock ∧ k_ ≠ gb104 ∧ k_ ≠ gb108)) (okp := (fun k_ => (w.heap.size ≤ k_) ∧ some k_ ≠ (u5 : Value).ownBlock ∧ k_ ≠ gb104 ∧ k_ ≠ gb108)) ?hr ?hp (fun _ hk => hk) ((show ∀ k_, w29.heap.size ≤ k_ → (fun k_ => (w.heap.size ≤ k_) ∧ some k_ ≠ (u5 : Value).ownBlock ∧ k_ ≠ gb104 ∧ k_ ≠ gb108) k_ from fun k_ hk => ⟨(Nat.le_trans (below_size Z2z9) hk), Kd.fresh' (Kd.N_lt Z2z2) k_ hk, Kd.freshB (g := gb104) (o := .cells #[.slice (some ⟨go8, 0, none⟩) y101.length co14, .int .i64 (wrap64 (-a1))] 25 (0, 0)) Z2z8 k_ hk, Kd.freshB (g := gb108) (o := .cells #[.slice (some ⟨go10, 0, none⟩) y105.length co19, .int .i64 (wrap64 (-a1))] 25 (0, 0)) Z2za k_ hk⟩) _ (Nat.le_refl _)) (Below.refl _ _) (Nat.le_refl _) (by simp) ?_; (case hd => rfl); (case hg => rfl); (case hr => first | (go_simp; done) | (go_simp; rfl)); (case hp => exact (Reps.c2 (show Kd.FK k25 _ _ (⟨y109, wrap64 (-a1)⟩ : S25) [.slice (some ⟨go8, 0, none⟩) y101.length co14, .int .i64 (wrap64 (-a1))] from (by have e_ : y101.length = y109.length := (by rw [Ny109.out, List.length_set]); have h_ := (Kd.R_types (Kd.R_types (Kd.R_apart' (HO103.out) (Kd.N_typed HO_5.out) (by decide)) BK104.out (by decide)) BK108.out (by decide)); rw [e_] at h_ ⊢; exact k25_mkF _ _ (⟨y109, wrap64 (-a1)⟩ : S25) (Kd.R_reads' h_).2.1 (Kd.R_F (Kd.R_mono (ok' := (fun k_ => (w.heap.size ≤ k_) ∧ some k_ ≠ (u5 : Value).ownBlock ∧ k_ ≠ gb104 ∧ k_ ≠ gb108)) h_ (fun k_ hk => ⟨hk.1.1.1.1, ⟨hk.1.1.2, ⟨hk.1.2, hk.2⟩⟩⟩))))) (Reps.c2 (show Kd.FK k25 _ _ (⟨y110, wrap64 (-a1)⟩ : S25) [.slice (some ⟨go10, 0, none⟩) y105.length co19, .int .i64 (wrap64 (-a1))] from (by have e_ : y105.length = y110.length := (by rw [Ny110.out, List.length_set]); have h_ := (Kd.R_types (Kd.R_types (Kd.R_apart' (HO107.out) (Kd.N_typed HO_5.out) (by decide)) BK104.out (by decide)) BK108.out (by decide)); rw [e_] at h_ ⊢; exact k25_mkF _ _ (⟨y110, wrap64 (-a1)⟩ : S25) (Kd.R_reads' h_).2.1 (Kd.R_F (Kd.R_mono (ok' := (fun k_ => (w.heap.size ≤ k_) ∧ some k_ ≠ (u5 : Value).ownBlock ∧ k_ ≠ gb104 ∧ k_ ≠ gb108)) h_ (fun k_ hk => ⟨hk.1.1.1.1, ⟨hk.1.1.2, ⟨hk.1.2, hk.2⟩⟩⟩))))) (Reps.none _ _)))); intro v112 w32 ho33 hb hg_ hnew_; clear hg_ hnew_; (first | rw [← Ny111.out] at ho33 | (simp only [Int.reduceToNat] at ho33; rw [← Ny111.out] at ho33)); have n0_ := Aside0.mk (Kd.N_elder' Z2z2 (Kd.N_base ho33) hb); have n1_ := Aside0.mk (Kd.N_lower ho33 (below_size Z2z9)); have n2_ := Aside0.mk (blk_below (g := gb104) (o := .cells #[.slice (some ⟨go8, 0, none⟩) y101.length co14, .int .i64 (wrap64 (-a1))] 25 (0, 0)) Z2z8 hb); have n3_ := Aside0.mk (blk_below (g := gb108) (o := .cells #[.slice (some ⟨go10, 0, none⟩) y105.length co19, .int .i64 (wrap64 (-a1))] 25 (0, 0)) Z2za hb); have n4_ := Aside0.mk (below_step Z2z9 hb); clear HO_5; clear BK104; clear BK108; clear HB; clear HO103; clear HO107; have HO_5 := n0_; have HO113 := n1_; have BK104 := n2_; have BK108 := n3_; have HB := n4_; clear n0_ n1_ n2_ n3_ n4_; clear hb ho33; obtain ⟨Ao35, co35, eo35⟩ := Kd.N_slice HO113.out; subst eo35) | ((with_reducible refine gate_builtin (b := .append) (xs := #[.tmp 32, .tmp 35]) rfl ?_); at_builtin; refine Kd.N_append_rows k25 (w0 := w) w.heap.size rfl (.tmp 32) (.tmp 35) 22 25 (.agg #[(.slice none 0 0), (.int .i64 0)]) 32 rfl Try.underlying22 info25 rfl (by decide) (by omega) u5 x5_1 y111 _ _ _ (fun k_ => (w.heap.size ≤ k_) ∧ k_ ≠ gb104 ∧ k_ ≠ gb108) (fun k_ => ((fun k_ => (w.heap.size ≤ k_) ∧ k_ ≠ gb104 ∧ k_ ≠ gb108)) k_ ∧ some k_ ≠ (u5 : Value).ownBlock) rfl rfl ?aO ?aR (fun _ hk => hk) ?aF ?aB ?aS ?aL ?_; (case aR => exact (by skip; exact Kd.N_F (Kd.N_mono (ok' := (fun k_ => ((fun k_ => (w.heap.size ≤ k_) ∧ k_ ≠ gb104 ∧ k_ ≠ gb108)) k_ ∧ some k_ ≠ (u5 : Value).ownBlock)) (HO113.out) (fun k_ hk => ⟨⟨hk.1, ⟨hk.2.2.1, hk.2.2.2⟩⟩, hk.2.1⟩)))); (case aB => exact Z2z9); (case aF => exact (fun k_ hk => ⟨(Nat.le_trans (below_size Z2z9) hk), Kd.freshB (g := gb104) (o := .cells #[.slice (some ⟨go8, 0, none⟩) y101.length co14, .int .i64 (wrap64 (-a1))] 25 (0, 0)) Z2z8 k_ hk, Kd.freshB (g := gb108) (o := .cells #[.slice (some ⟨go10, 0, none⟩) y105.length co19, .int .i64 (wrap64 (-a1))] 25 (0, 0)) Z2za k_ hk⟩)); (case aO => exact (by (with_reducible repeat (first | apply Kd.N_alloc | apply Kd.N_drewN | apply Kd.N_drew)); exact Kd.N_mono HO_5.out (fun _ hk => ⟨hk.1.1.1, ⟨hk.1.1.2.2.1, hk.1.1.2.2.2⟩⟩))); (case aS => exact (below_size Z2z9)); (case aL => have := LMc11.out; omega); intro v115 w34 ho hb hg hat; rw [← Ny114.out] at ho; have n0_ := Aside0.mk (blk_grown (g := gb104) (o := .cells #[.slice (some ⟨go8, 0, none⟩) y101.length co14, .int .i64 (wrap64 (-a1))] 25 (0, 0)) Z2z8 hg (Kd.N_away HO_5.out (fun _ hk => hk.1.1.2.2.1))); have n1_ := Aside0.mk (blk_grown (g := gb108) (o := .cells #[.slice (some ⟨go10, 0, none⟩) y105.length co19, .int .i64 (wrap64 (-a1))] 25 (0, 0)) Z2za hg (Kd.N_away HO_5.out (fun _ hk => hk.1.1.2.2.2))); have n2_ := Aside0.mk (Kd.N_afterv (ok := (fun k_ => (w.heap.size ≤ k_) ∧ k_ ≠ gb104 ∧ k_ ≠ gb108)) (by (with_reducible repeat (first | apply Kd.N_alloc | apply Kd.N_drewN | apply Kd.N_drew)); exact Kd.N_mono HO113.out (fun _ hk => ⟨⟨hk.1, ⟨hk.2.2.1, hk.2.2.2⟩⟩, hk.2.1⟩)) hg hat); have n3_ := Aside0.mk (hb); have n4_ := Aside0.mk (ho); clear BK104; clear BK108; clear HO113; clear HB; clear HO_5; have BK104 := n0_; have BK108 := n1_; have HO113 := n2_; have HB := n3_; have HO116 := n4_; clear n0_ n1_ n2_ n3_ n4_; clear ho hb hg hat))
          go_roundg k1
          case measure => have := HK1.out; omega
          case rel => exact ⟨(y114), (wrap64 (x6_1 + 1)), Z2z0, H', ⟨by have := HK1.out; omega⟩, ⟨by (with_reducible repeat (first | apply Kd.N_alloc | apply Kd.N_drewN | apply Kd.N_drew)); exact Kd.N_mono HO116.out (fun _ hk => hk.1)⟩, ⟨by repeat (first | (with_reducible first | exact HB.out | apply below_alloc | apply pw_below_drewN | apply below_drew1 | refine below_set ?_ GE104.out | refine below_set ?_ GE108.out) | exact HB.out)⟩⟩
         ·rw [if_neg c11] at H
          exact absurd H (by simp)
        ·rw [if_neg c9] at H
         exact absurd H (by simp)
       ·rw [if_neg c7] at H
        exact absurd H (by simp)
      ·rw [if_neg c6] at H
       exact absurd H (by simp)
     ·rw [if_neg c5] at H
      exact absurd H (by simp)
    ·rw [if_neg c4] at H
     exact absurd H (by simp)
   ·rw [if_neg c3] at H
    have c3b0 : decide (x6_1 < a0) = false := decide_eq_false c3
    clear c3
    obtain rfl := Option.some.inj H
    go_wp2
    go_ret
    exact ⟨_, by first | rfl | (simp [errW_none, errW_some] <;> rfl) | (simp [*, errW_none, errW_some] <;> rfl), by (with_reducible repeat (first | apply Kd.N_alloc | apply Kd.N_drewN | apply Kd.N_drew)); exact HO_5.out, by repeat (first | (with_reducible first | exact HB.out | apply below_alloc | apply pw_below_drewN | apply below_drew1) | exact HB.out)⟩
def ashlarlaw12_WholeTimes.l0 : Nat → Int → Int → Int → Bool → Int → List Int → Bool → Int → Option (Bool)
 | 0, _, _, _, _, _, _, _, _ => none
 | k + 1, x0, x1, x2, x7, x9, x10, x11, x12 => if x12 ≤ 3 then (if x11 = true then (ashlarlaw12_WholeTimes.l0 k x0 x1 x2 x7 x9 x10 true (wrap64 (x12 + 1))) else (if (wrap64 (x2 * x12)) ≥ x0 then (ashlarlaw12_WholeTimes.l0 k x0 x1 x2 x7 x9 x10 (decide ((wrap64 (x2 * x12)) ≤ x1)) (wrap64 (x12 + 1))) else (ashlarlaw12_WholeTimes.l0 k x0 x1 x2 x7 x9 x10 false (wrap64 (x12 + 1))))) else (if x9 = 1 then (if (x10.length : Int) = 1 then (if 0 < (x10.length : Int) then (if (wrap64 (x2 * (rd x10 0))) < x0 then (some false) else (if (wrap64 (x2 * (rd x10 0))) > x1 then (some false) else (if x7 = true then (if ((x9 == 1) == x11) = true then (some ((x9 == 2) == (!x11))) else (some false)) else (some false)))) else (none)) else (some false)) else (if x7 = true then (if ((x9 == 1) == x11) = true then (some ((x9 == 2) == (!x11))) else (some false)) else (some false)))
def ashlarlaw12_WholeTimes.f (k : Nat) (a0 : Int) (a1 : Int) (a2 : Int) : Option (Bool) := (ashlarlaw12_shown.f).bind fun t117 => ((ashlarlaw12_box.f k 1 3).bind fun t118 => ((some (([(⟨(([wrap64 (1 + (Go.bits .and .i64 a2 7))] : List Int)), wrap64 (-(Int.tmod a1 10))⟩ : S25), (⟨(([wrap64 (-(wrap64 (1 + (Go.bits .and .i64 a2 7))))] : List Int)), Int.tmod a0 10⟩ : S25)] : List (S25)) : List (S25))).bind fun y127 => (if t118.length + y127.length < 4398046511104 then ((whole_Solve.f (t118 ++ y127) 1 1000).bind fun bt133 => (ashlarlaw12_WholeTimes.l0 k (Int.tmod a0 10) (Int.tmod a1 10) (wrap64 (1 + (Go.bits .and .i64 a2 7))) t117 bt133.1 bt133.2 false (-3))) else (none))))
theorem ashlarlaw12_WholeTimes.mono_l : ∀ k, (∀ y0 y1 y2 y3 y4 y5 y6 y7, LeO (ashlarlaw12_WholeTimes.l0 k y0 y1 y2 y3 y4 y5 y6 y7) (ashlarlaw12_WholeTimes.l0 (k + 1) y0 y1 y2 y3 y4 y5 y6 y7))
 | 0 => fun _ _ _ _ _ _ _ _ r h => by simp [ashlarlaw12_WholeTimes.l0] at h
 | k + 1 => by
  have ih0 := ashlarlaw12_WholeTimes.mono_l k
  ·intro y0 y1 y2 y3 y4 y5 y6 y7
   unfold ashlarlaw12_WholeTimes.l0
   repeat' first
   | (with_reducible exact ih0 _ _ _ _ _ _ _ _)
   | (with_reducible exact ashlarlaw12_box.mono _ _ _)
   | (with_reducible exact LeO.refl _)
   | (with_reducible exact LeO.none _)
   | (with_reducible refine LeO.ite ?_ ?_)
   | (with_reducible refine LeO.bind ?_ (fun _ => ?_))
   | exact ih0 _ _ _ _ _ _ _ _
   | exact ashlarlaw12_box.mono _ _ _
   | exact LeO.none _
   | refine LeO.ite ?_ ?_
   | refine LeO.bind ?_ (fun _ => ?_)
theorem ashlarlaw12_WholeTimes.mono : ∀ a0 a1 a2 k, LeO (ashlarlaw12_WholeTimes.f k a0 a1 a2) (ashlarlaw12_WholeTimes.f (k + 1) a0 a1 a2) := by
 intro a0 a1 a2 k
 have ih0 := ashlarlaw12_WholeTimes.mono_l k
 unfold ashlarlaw12_WholeTimes.f
 repeat' first
   | (with_reducible exact ih0 _ _ _ _ _ _ _ _)
   | (with_reducible exact ashlarlaw12_box.mono _ _ _)
   | (with_reducible exact LeO.refl _)
   | (with_reducible exact LeO.none _)
   | (with_reducible refine LeO.ite ?_ ?_)
   | (with_reducible refine LeO.bind ?_ (fun _ => ?_))
   | exact ih0 _ _ _ _ _ _ _ _
   | exact ashlarlaw12_box.mono _ _ _
   | exact LeO.none _
   | refine LeO.ite ?_ ?_
   | refine LeO.bind ?_ (fun _ => ?_)
set_option maxHeartbeats 8000000 in
set_option maxRecDepth 100000 in
theorem ashlarlaw12_WholeTimes.calls (k : Nat) (a0 : Int) (a1 : Int) (a2 : Int) (r : Bool) (w : World) (h : ashlarlaw12_WholeTimes.f k a0 a1 a2 = some r) :
  Calls Try.prog 4 #[.int .i64 a0, .int .i64 a1, .int .i64 a2] w fun e w' => e = .returned (.bool r) ∧ Below w.heap.size w w' := by
 have hu25 := Try.underlying25
 have HB := Aside0.mk (Below.refl w.heap.size w)
 have H : ((ashlarlaw12_shown.f).bind fun t117 => ((ashlarlaw12_box.f k 1 3).bind fun t118 => ((some (([(⟨(([wrap64 (1 + (Go.bits .and .i64 a2 7))] : List Int)), wrap64 (-(Int.tmod a1 10))⟩ : S25), (⟨(([wrap64 (-(wrap64 (1 + (Go.bits .and .i64 a2 7))))] : List Int)), Int.tmod a0 10⟩ : S25)] : List (S25)) : List (S25))).bind fun y127 => (if t118.length + y127.length < 4398046511104 then ((whole_Solve.f (t118 ++ y127) 1 1000).bind fun bt133 => (ashlarlaw12_WholeTimes.l0 k (Int.tmod a0 10) (Int.tmod a1 10) (wrap64 (1 + (Go.bits .and .i64 a2 7))) t117 bt133.1 bt133.2 false (-3))) else (none))))) = some r := h
 clear h
 replace H := Option.bind_eq_some_iff.mp H
 obtain ⟨t117, A40, H⟩ := H
 replace H : ((ashlarlaw12_box.f k 1 3).bind fun t118 => ((some (([(⟨(([wrap64 (1 + (Go.bits .and .i64 a2 7))] : List Int)), wrap64 (-(Int.tmod a1 10))⟩ : S25), (⟨(([wrap64 (-(wrap64 (1 + (Go.bits .and .i64 a2 7))))] : List Int)), Int.tmod a0 10⟩ : S25)] : List (S25)) : List (S25))).bind fun y127 => (if t118.length + y127.length < 4398046511104 then ((whole_Solve.f (t118 ++ y127) 1 1000).bind fun bt133 => (ashlarlaw12_WholeTimes.l0 k (Int.tmod a0 10) (Int.tmod a1 10) (wrap64 (1 + (Go.bits .and .i64 a2 7))) t117 bt133.1 bt133.2 false (-3))) else (none)))) = some r := H
 have A4 := Aside0.mk A40
 clear A40
 replace H := Option.bind_eq_some_iff.mp H
 obtain ⟨t118, A50, H⟩ := H
 replace H : ((some (([(⟨(([wrap64 (1 + (Go.bits .and .i64 a2 7))] : List Int)), wrap64 (-(Int.tmod a1 10))⟩ : S25), (⟨(([wrap64 (-(wrap64 (1 + (Go.bits .and .i64 a2 7))))] : List Int)), Int.tmod a0 10⟩ : S25)] : List (S25)) : List (S25))).bind fun y127 => (if t118.length + y127.length < 4398046511104 then ((whole_Solve.f (t118 ++ y127) 1 1000).bind fun bt133 => (ashlarlaw12_WholeTimes.l0 k (Int.tmod a0 10) (Int.tmod a1 10) (wrap64 (1 + (Go.bits .and .i64 a2 7))) t117 bt133.1 bt133.2 false (-3))) else (none))) = some r := H
 have A5 := Aside0.mk A50
 clear A50
 obtain ⟨y121, hy121⟩ : ∃ y_ : List Int, y_ = (([wrap64 (1 + (Go.bits .and .i64 a2 7))] : List Int)) := ⟨_, rfl⟩
 replace H : ((some (([(⟨y121, wrap64 (-(Int.tmod a1 10))⟩ : S25), (⟨(([wrap64 (-(wrap64 (1 + (Go.bits .and .i64 a2 7))))] : List Int)), Int.tmod a0 10⟩ : S25)] : List (S25)) : List (S25))).bind fun y127 => (if t118.length + y127.length < 4398046511104 then ((whole_Solve.f (t118 ++ y127) 1 1000).bind fun bt133 => (ashlarlaw12_WholeTimes.l0 k (Int.tmod a0 10) (Int.tmod a1 10) (wrap64 (1 + (Go.bits .and .i64 a2 7))) t117 bt133.1 bt133.2 false (-3))) else (none))) = some r := by first | (rw [hy121]; with_reducible exact H) | (have H2_ := (Option.bind_some _ _).symm.trans H; rw [hy121]; with_reducible exact H2_) | (have H2_ := (Option.bind_some _ _).symm.trans H; with_reducible exact H2_) | with_reducible exact H | (rw [hy121]; exact H) | exact H
 have Ny121 := Aside0.mk hy121
 clear hy121
 obtain ⟨y124, hy124⟩ : ∃ y_ : List Int, y_ = (([wrap64 (-(wrap64 (1 + (Go.bits .and .i64 a2 7))))] : List Int)) := ⟨_, rfl⟩
 replace H : ((some (([(⟨y121, wrap64 (-(Int.tmod a1 10))⟩ : S25), (⟨y124, Int.tmod a0 10⟩ : S25)] : List (S25)) : List (S25))).bind fun y127 => (if t118.length + y127.length < 4398046511104 then ((whole_Solve.f (t118 ++ y127) 1 1000).bind fun bt133 => (ashlarlaw12_WholeTimes.l0 k (Int.tmod a0 10) (Int.tmod a1 10) (wrap64 (1 + (Go.bits .and .i64 a2 7))) t117 bt133.1 bt133.2 false (-3))) else (none))) = some r := by first | (rw [hy124]; with_reducible exact H) | (have H2_ := (Option.bind_some _ _).symm.trans H; rw [hy124]; with_reducible exact H2_) | (have H2_ := (Option.bind_some _ _).symm.trans H; with_reducible exact H2_) | with_reducible exact H | (rw [hy124]; exact H) | exact H
 have Ny124 := Aside0.mk hy124
 clear hy124
 obtain ⟨y127, hy127⟩ : ∃ y_ : List (S25), y_ = (([(⟨y121, wrap64 (-(Int.tmod a1 10))⟩ : S25), (⟨y124, Int.tmod a0 10⟩ : S25)] : List (S25))) := ⟨_, rfl⟩
 replace H : (if t118.length + y127.length < 4398046511104 then ((whole_Solve.f (t118 ++ y127) 1 1000).bind fun bt133 => (ashlarlaw12_WholeTimes.l0 k (Int.tmod a0 10) (Int.tmod a1 10) (wrap64 (1 + (Go.bits .and .i64 a2 7))) t117 bt133.1 bt133.2 false (-3))) else (none)) = some r := by first | (rw [hy127]; with_reducible exact H) | (have H2_ := (Option.bind_some _ _).symm.trans H; rw [hy127]; with_reducible exact H2_) | (have H2_ := (Option.bind_some _ _).symm.trans H; with_reducible exact H2_) | with_reducible exact H | (rw [hy127]; exact H) | exact H
 have Ny127 := Aside0.mk hy127
 clear hy127
 by_cases c6 : t118.length + y127.length < 4398046511104
 ·rw [if_pos c6] at H
  have LMc6 := Aside0.mk c6
  clear c6
  obtain ⟨y130, hy130⟩ : ∃ y_ : List (S25), y_ = (t118 ++ y127) := ⟨_, rfl⟩
  replace H : ((whole_Solve.f y130 1 1000).bind fun bt133 => (ashlarlaw12_WholeTimes.l0 k (Int.tmod a0 10) (Int.tmod a1 10) (wrap64 (1 + (Go.bits .and .i64 a2 7))) t117 bt133.1 bt133.2 false (-3))) = some r := by first | (rw [hy130]; with_reducible exact H) | (have H2_ := (Option.bind_some _ _).symm.trans H; rw [hy130]; with_reducible exact H2_) | (have H2_ := (Option.bind_some _ _).symm.trans H; with_reducible exact H2_) | with_reducible exact H | (rw [hy130]; exact H) | exact H
  have Ny130 := Aside0.mk hy130
  clear hy130
  replace H := Option.bind_eq_some_iff.mp H
  obtain ⟨⟨t133, t134⟩, A70, H⟩ := H
  replace H : (ashlarlaw12_WholeTimes.l0 k (Int.tmod a0 10) (Int.tmod a1 10) (wrap64 (1 + (Go.bits .and .i64 a2 7))) t117 t133 t134 false (-3)) = some r := H
  have A7 := Aside0.mk A70
  clear A70
  have H' := Aside0.mk H
  clear H
  go_enter Try.func4, Try.ntmps4
  go_wp2_with (first | ((with_reducible refine gate_callee (f := 6) rfl ?_); refine goesL_ (some 13) rfl rfl Try.func6 (by kernel_rfl) rfl #[] rfl Z2zb ?_; (with_reducible refine (ashlarlaw12_shown.calls  t117 _ A4.out).mono ?_); rintro e w8 ⟨rfl, hb⟩; refine ⟨_, rfl, ?_⟩; have n0_ := Aside0.mk (below_step Z2z3 hb); clear HB; have HB := n0_; clear n0_; (try clear hb); (try clear hb2); (try clear hk); (try clear hi)) | ((with_reducible refine gate_callee (f := 8) rfl ?_); refine goesL_ (some 21) rfl rfl Try.func8 (by kernel_rfl) rfl #[.int .i64 1, .int .i64 3] rfl Z2zb ?_; (with_reducible refine (ashlarlaw12_box.calls k 1 3 t118 _ A5.out).mono ?_); rintro e w9 ⟨v119, rfl, ho0, hb⟩; refine ⟨_, rfl, ?_⟩; have n0_ := Aside0.mk (Kd.N_lower (Kd.N_mono (ok' := fun k_ => True) ho0 (fun k_ hk_ => trivial)) (below_size Z2z3)); have n1_ := Aside0.mk (below_step Z2z3 hb); clear HB; have HO120 := n0_; have HB := n1_; clear n0_ n1_; (try clear hb); (try clear hb2); (try clear hk); (try clear hi); (try clear ho0)) | ((with_reducible refine gate_dst (N := 23) rfl ?_); (try (refine gate_guard (by rfl) ?_; dsimp only)); refine Kd.R_lit (Kd.int .i64) _ 2 ?hg (N := 23) ?hd (xs := ([wrap64 (1 + (Go.bits .and .i64 a2 7))] : List Int)) (inner := [.int .i64 (wrap64 (1 + (Go.bits .and .i64 a2 7)))]) (ok := fun _ => True) (okp := fun _ => True) ?hr ?hp (fun _ hk => hk) trivial (Below.refl _ _) (Nat.le_refl _) (by simp) ?_; (case hd => rfl); (case hg => rfl); (case hr => first | (go_simp; done) | (go_simp; rfl)); (case hp => exact (Reps.one (show Kd.M (Kd.int .i64) _ _ _ (wrap64 (1 + (Go.bits .and .i64 a2 7))) [.int .i64 (wrap64 (1 + (Go.bits .and .i64 a2 7)))] from rfl) (Reps.none _ _))); intro v122 w10 ho11 hb hg_ hnew_; clear hg_ hnew_; (first | rw [← Ny121.out] at ho11 | (simp only [Int.reduceToNat] at ho11; rw [← Ny121.out] at ho11)); have n0_ := Aside0.mk (Kd.N_elder' Z2zc (Kd.R_base ho11) hb); have n1_ := Aside0.mk (Kd.R_lower ho11 (below_size Z2z3)); have n2_ := Aside0.mk (below_step Z2z3 hb); clear HO120; clear HB; have HO120 := n0_; have HO123 := n1_; have HB := n2_; clear n0_ n1_ n2_; clear hb ho11; obtain ⟨Ao12, co12, eo12⟩ := Kd.R_slice HO123.out; subst eo12) | ((with_reducible refine gate_dst (N := 29) rfl ?_); (try (refine gate_guard (by rfl) ?_; dsimp only)); refine Kd.R_lit (Kd.int .i64) _ 2 ?hg (N := 29) ?hd (xs := ([wrap64 (-(wrap64 (1 + (Go.bits .and .i64 a2 7))))] : List Int)) (inner := [.int .i64 (wrap64 (-(wrap64 (1 + (Go.bits .and .i64 a2 7)))))]) (ok := fun _ => True) (okp := fun _ => True) ?hr ?hp (fun _ hk => hk) trivial (Below.refl _ _) (Nat.le_refl _) (by simp) ?_; (case hd => rfl); (case hg => rfl); (case hr => first | (go_simp; done) | (go_simp; rfl)); (case hp => exact (Reps.one (show Kd.M (Kd.int .i64) _ _ _ (wrap64 (-(wrap64 (1 + (Go.bits .and .i64 a2 7))))) [.int .i64 (wrap64 (-(wrap64 (1 + (Go.bits .and .i64 a2 7)))))] from rfl) (Reps.none _ _))); intro v125 w13 ho14 hb hg_ hnew_; clear hg_ hnew_; (first | rw [← Ny124.out] at ho14 | (simp only [Int.reduceToNat] at ho14; rw [← Ny124.out] at ho14)); have n0_ := Aside0.mk (Kd.N_elder' Z2zc (Kd.R_base ho14) hb); have n1_ := Aside0.mk (Kd.R_elder' Z2zd (Kd.R_base ho14) hb); have n2_ := Aside0.mk (Kd.R_lower (Kd.R_new' ho14 (Kd.R_lt Z2zd)) (below_size Z2z3)); have n3_ := Aside0.mk (below_step Z2z3 hb); clear HO120; clear HO123; clear HB; have HO120 := n0_; have HO123 := n1_; have HO126 := n2_; have HB := n3_; clear n0_ n1_ n2_ n3_; clear hb ho14; obtain ⟨Ao15, co15, eo15⟩ := Kd.R_slice HO126.out; subst eo15) | ((with_reducible refine gate_dst (N := 32) rfl ?_); (try (refine gate_guard (by rfl) ?_; dsimp only)); refine Kd.N_lit k25 _ 25 ?hg (N' := 32) ?hd (xs := ([(⟨y121, wrap64 (-(Int.tmod a1 10))⟩ : S25), (⟨y124, Int.tmod a0 10⟩ : S25)] : List (S25))) (inner := [.slice Ao12 y121.length co12, .int .i64 (wrap64 (-(Int.tmod a1 10))), .slice Ao15 y124.length co15, .int .i64 (Int.tmod a0 10)]) (ok := (fun k_ => some k_ ≠ (v119 : Value).ownBlock)) (okp := (fun k_ => some k_ ≠ (v119 : Value).ownBlock)) ?hr ?hp (fun _ hk => hk) ((show ∀ k_, w13.heap.size ≤ k_ → (fun k_ => some k_ ≠ (v119 : Value).ownBlock) k_ from fun k_ hk => Kd.fresh' (Kd.N_lt Z2zc) k_ hk) _ (Nat.le_refl _)) (Below.refl _ _) (Nat.le_refl _) (by simp) ?_; (case hd => rfl); (case hg => rfl); (case hr => first | (go_simp; done) | (go_simp; rfl)); (case hp => exact (Reps.c2 (show Kd.FK k25 _ _ (⟨y121, wrap64 (-(Int.tmod a1 10))⟩ : S25) [.slice Ao12 y121.length co12, .int .i64 (wrap64 (-(Int.tmod a1 10)))] from (k25_mkF _ _ (⟨y121, wrap64 (-(Int.tmod a1 10))⟩ : S25) (Kd.R_reads' (Kd.R_mono (ok' := (fun k_ => some k_ ≠ (v119 : Value).ownBlock)) (Kd.R_apart' (HO123.out) (Kd.N_typed HO120.out) (by decide)) (fun k_ hk => hk.2))).2.1 (Kd.R_F (Kd.R_mono (ok' := (fun k_ => some k_ ≠ (v119 : Value).ownBlock)) (Kd.R_apart' (HO123.out) (Kd.N_typed HO120.out) (by decide)) (fun k_ hk => hk.2))))) (Reps.c2 (show Kd.FK k25 _ _ (⟨y124, Int.tmod a0 10⟩ : S25) [.slice Ao15 y124.length co15, .int .i64 (Int.tmod a0 10)] from (k25_mkF _ _ (⟨y124, Int.tmod a0 10⟩ : S25) (Kd.R_reads' (Kd.R_mono (ok' := (fun k_ => some k_ ≠ (v119 : Value).ownBlock)) (Kd.R_apart' (HO126.out) (Kd.N_typed HO120.out) (by decide)) (fun k_ hk => hk.2))).2.1 (Kd.R_F (Kd.R_mono (ok' := (fun k_ => some k_ ≠ (v119 : Value).ownBlock)) (Kd.R_apart' (HO126.out) (Kd.N_typed HO120.out) (by decide)) (fun k_ hk => hk.2))))) (Reps.none _ _)))); intro v128 w16 ho17 hb hg_ hnew_; clear hg_ hnew_; (first | rw [← Ny127.out] at ho17 | (simp only [Int.reduceToNat] at ho17; rw [← Ny127.out] at ho17)); have n0_ := Aside0.mk (Kd.N_elder' Z2zc (Kd.N_base ho17) hb); have n1_ := Aside0.mk (Kd.N_lower ho17 (below_size Z2z3)); have n2_ := Aside0.mk (below_step Z2z3 hb); clear HO120; clear HB; clear HO123; clear HO126; have HO120 := n0_; have HO129 := n1_; have HB := n2_; clear n0_ n1_ n2_; clear hb ho17; obtain ⟨Ao19, co19, eo19⟩ := Kd.N_slice HO129.out; subst eo19) | ((with_reducible refine gate_builtin (b := .append) (xs := #[.tmp 21, .tmp 32]) rfl ?_); (try (refine gate_guard (by rfl) ?_; dsimp only)); at_builtin; refine Kd.N_append_rows k25 (w0 := w) w.heap.size rfl (.tmp 21) (.tmp 32) 22 25 (.agg #[(.slice none 0 0), (.int .i64 0)]) 32 rfl Try.underlying22 info25 rfl (by decide) (by omega) v119 t118 y127 _ _ _ (fun _ => True) (fun k_ => ((fun _ => True)) k_ ∧ some k_ ≠ (v119 : Value).ownBlock) rfl rfl ?aO ?aR (fun _ hk => hk) ?aF ?aB ?aS ?aL ?_; (case aR => exact (by skip; exact Kd.N_F (Kd.N_mono (ok' := (fun k_ => ((fun _ => True)) k_ ∧ some k_ ≠ (v119 : Value).ownBlock)) (HO129.out) (fun k_ hk => ⟨trivial, hk⟩)))); (case aB => exact Z2z3); (case aF => exact (fun _ _ => trivial)); (case aO => exact (by (with_reducible repeat (first | apply Kd.N_alloc | apply Kd.N_drewN | apply Kd.N_drew)); exact Kd.N_mono HO120.out (fun _ hk => trivial))); (case aS => exact (below_size Z2z3)); (case aL => have := LMc6.out; omega); intro v131 w18 ho hb hg hat; rw [← Ny130.out] at ho; have n0_ := Aside0.mk (Kd.N_afterv (ok := (fun _ => True)) (by (with_reducible repeat (first | apply Kd.N_alloc | apply Kd.N_drewN | apply Kd.N_drew)); exact Kd.N_mono HO129.out (fun _ hk => ⟨trivial, hk⟩)) hg hat); have n1_ := Aside0.mk (hb); have n2_ := Aside0.mk (ho); clear HO129; clear HB; clear HO120; have HO129 := n0_; have HB := n1_; have HO132 := n2_; clear n0_ n1_ n2_; clear ho hb hg hat; obtain ⟨Ao20, co20, eo20⟩ := Kd.N_slice HO132.out; subst eo20) | ((with_reducible refine gate_callee (f := 9) rfl ?_); refine goesL_ (some 36) rfl rfl Try.func9 (by kernel_rfl) rfl #[.slice Ao20 y130.length co20, .int .i64 1, .int .i64 1000] rfl Z2zb ?_; (with_reducible refine (whole_Solve.calls _ _ y130 1 1000 t133 t134 _ ?side1 ?side2 A7.out).mono ?_); (case side1 => repeat (first | exact (Kd.N_reads' HO132.out).2.2 | (with_reducible refine Kd.C_alloc ?_ _) | (with_reducible refine Kd.C_drewN ?_ _) | (with_reducible refine Kd.C_drew ?_))); (case side2 => exact (Kd.N_reads' HO132.out).2.1); rintro e w21 ⟨v135, rfl, ho0, hb⟩; refine ⟨_, rfl, ?_⟩; have n0_ := Aside0.mk (Kd.N_elder' (by (with_reducible repeat (first | apply Kd.N_alloc | apply Kd.N_drewN | apply Kd.N_drew)); exact HO129.out) (Kd.R_base ho0) hb); have n1_ := Aside0.mk (Kd.N_elder' (by (with_reducible repeat (first | apply Kd.N_alloc | apply Kd.N_drewN | apply Kd.N_drew)); exact HO132.out) (Kd.R_base ho0) hb); have n2_ := Aside0.mk (Kd.R_lower ho0 (below_size Z2z3)); have n3_ := Aside0.mk (below_step Z2z3 hb); clear HO129; clear HO132; clear HB; have HO129 := n0_; have HO132 := n1_; have HO136 := n2_; have HB := n3_; clear n0_ n1_ n2_ n3_; (try clear hb); (try clear hb2); (try clear hk); (try clear hi); (try clear ho0)))
  go_loopg [11, 12] k (fun kq v11 v12 w' => ∃ (x11_1 : Bool) (x12_1 : Int), v11 = .bool x11_1 ∧ v12 = .int .i64 x12_1 ∧ Aside0 (ashlarlaw12_WholeTimes.l0 kq (Int.tmod a0 10) (Int.tmod a1 10) (wrap64 (1 + (Go.bits .and .i64 a2 7))) t117 t133 t134 x11_1 x12_1 = some r) ∧ Aside0 (kq ≤ k) ∧ Aside0 (Kd.R (Kd.int .i64) 2 w' w.heap.size (fun _ => True) v135 t134) ∧ Aside0 (Below w.heap.size w w'))
  case atStart => exact ⟨(false), ((-3)), Z2z0, Z2z0, H', ⟨Nat.le_refl _⟩, ⟨by (with_reducible repeat (first | apply Kd.R_alloc | apply Kd.R_drewN | apply Kd.R_drew)); exact HO136.out⟩, ⟨by repeat (first | (with_reducible first | exact HB.out | apply below_alloc | apply pw_below_drewN | apply below_drew1) | exact HB.out)⟩⟩
  case round =>
   clear H'
   try clear c2
   try clear p2
   try clear c4
   try clear c6
   try clear p6
   try clear c8
   try clear c9
   obtain ⟨x11_1, x12_1, rfl, rfl, HA, HK1, HO_10, HB⟩ := hrel
   cases gk with
   | zero => exact absurd HA.out (by simp [ashlarlaw12_WholeTimes.l0])
   | succ k1 =>
    have H := HA.out
    clear HA
    simp only [ashlarlaw12_WholeTimes.l0] at H
    by_cases c22 : x12_1 ≤ 3
    ·rw [if_pos c22] at H
     have c22b0 : decide (x12_1 ≤ 3) = true := decide_eq_true c22
     clear c22
     by_cases c23 : x11_1 = true
     ·subst c23
      have H1 : (ashlarlaw12_WholeTimes.l0 k1 (Int.tmod a0 10) (Int.tmod a1 10) (wrap64 (1 + (Go.bits .and .i64 a2 7))) t117 t133 t134 true (wrap64 (x12_1 + 1))) = some r := by rw [if_pos rfl] at H; exact H
      clear H
      have H := H1
      clear H1
      have H' := Aside0.mk H
      clear H
      go_wp2
      go_roundg k1
      case measure => have := HK1.out; omega
      case rel => exact ⟨(true), (wrap64 (x12_1 + 1)), Z2z0, Z2z0, H', ⟨by have := HK1.out; omega⟩, ⟨by (with_reducible repeat (first | apply Kd.R_alloc | apply Kd.R_drewN | apply Kd.R_drew)); exact HO_10.out⟩, ⟨by repeat (first | (with_reducible first | exact HB.out | apply below_alloc | apply pw_below_drewN | apply below_drew1) | exact HB.out)⟩⟩
     ·replace c23 := Bool.eq_false_iff.mpr c23
      subst c23
      have H1 : (if (wrap64 ((wrap64 (1 + (Go.bits .and .i64 a2 7))) * x12_1)) ≥ (Int.tmod a0 10) then (ashlarlaw12_WholeTimes.l0 k1 (Int.tmod a0 10) (Int.tmod a1 10) (wrap64 (1 + (Go.bits .and .i64 a2 7))) t117 t133 t134 (decide ((wrap64 ((wrap64 (1 + (Go.bits .and .i64 a2 7))) * x12_1)) ≤ (Int.tmod a1 10))) (wrap64 (x12_1 + 1))) else (ashlarlaw12_WholeTimes.l0 k1 (Int.tmod a0 10) (Int.tmod a1 10) (wrap64 (1 + (Go.bits .and .i64 a2 7))) t117 t133 t134 false (wrap64 (x12_1 + 1)))) = some r := by rw [if_neg (show ¬ (false = true) by decide)] at H; exact H
      clear H
      have H := H1
      clear H1
      by_cases c24 : (wrap64 ((wrap64 (1 + (Go.bits .and .i64 a2 7))) * x12_1)) ≥ (Int.tmod a0 10)
      ·rw [if_pos c24] at H
       have c24b0 : decide ((Int.tmod a0 10) ≤ (wrap64 ((wrap64 (1 + (Go.bits .and .i64 a2 7))) * x12_1))) = true := decide_eq_true c24
       clear c24
       have H' := Aside0.mk H
       clear H
       go_wp2
       go_roundg k1
       case measure => have := HK1.out; omega
       case rel => exact ⟨(decide ((wrap64 ((wrap64 (1 + (Go.bits .and .i64 a2 7))) * x12_1)) ≤ (Int.tmod a1 10))), (wrap64 (x12_1 + 1)), Z2z0, Z2z0, H', ⟨by have := HK1.out; omega⟩, ⟨by (with_reducible repeat (first | apply Kd.R_alloc | apply Kd.R_drewN | apply Kd.R_drew)); exact HO_10.out⟩, ⟨by repeat (first | (with_reducible first | exact HB.out | apply below_alloc | apply pw_below_drewN | apply below_drew1) | exact HB.out)⟩⟩
      ·rw [if_neg c24] at H
       have c24b0 : decide ((Int.tmod a0 10) ≤ (wrap64 ((wrap64 (1 + (Go.bits .and .i64 a2 7))) * x12_1))) = false := decide_eq_false c24
       clear c24
       have H' := Aside0.mk H
       clear H
       go_wp2
       go_roundg k1
       case measure => have := HK1.out; omega
       case rel => exact ⟨(false), (wrap64 (x12_1 + 1)), Z2z0, Z2z0, H', ⟨by have := HK1.out; omega⟩, ⟨by (with_reducible repeat (first | apply Kd.R_alloc | apply Kd.R_drewN | apply Kd.R_drew)); exact HO_10.out⟩, ⟨by repeat (first | (with_reducible first | exact HB.out | apply below_alloc | apply pw_below_drewN | apply below_drew1) | exact HB.out)⟩⟩
    ·rw [if_neg c22] at H
     have c22b0 : decide (x12_1 ≤ 3) = false := decide_eq_false c22
     clear c22
     by_cases c25 : t133 = 1
     ·rw [if_pos c25] at H
      have c25b0 : (t133 == 1) = true := beq_iff_eq.mpr c25
      have c25b1 : (t133 != 1) = false := bne_eq_false_iff_eq.mpr c25
      clear c25
      by_cases c26 : (t134.length : Int) = 1
      ·rw [if_pos c26] at H
       have c26b0 : ((t134.length : Int) == 1) = true := beq_iff_eq.mpr c26
       have c26b1 : ((t134.length : Int) != 1) = false := bne_eq_false_iff_eq.mpr c26
       clear c26
       by_cases c27 : 0 < (t134.length : Int)
       ·rw [if_pos c27] at H
        have c27b0 : decide (0 < (t134.length : Int)) = true := decide_eq_true c27
        have c27b1 : decide (0 < t134.length) = true := decide_eq_true (by omega)
        clear c27
        by_cases c28 : (wrap64 ((wrap64 (1 + (Go.bits .and .i64 a2 7))) * (rd t134 0))) < (Int.tmod a0 10)
        ·rw [if_pos c28] at H
         have c28b0 : decide ((wrap64 ((wrap64 (1 + (Go.bits .and .i64 a2 7))) * (rd t134 0))) < (Int.tmod a0 10)) = true := decide_eq_true c28
         clear c28
         obtain rfl := Option.some.inj H
         obtain ⟨Ao29, co29, eo29⟩ := Kd.R_slice HO_10.out
         subst eo29
         have p137 : 0 ≤ (0 : Int) := (by omega)
         have q137 : 0 < (t134.length : Int) := of_decide_eq_true Z2z1
         obtain ⟨ad137, e137, hx137_0⟩ := Kd.at_int (Kd.R_reads' HO_10.out).2.2 0 p137 q137
         cases e137
         have qi137 : (0 < t134.length) = True := eq_true (by omega)
         (try rw [show ((0 : Int)).toNat = 0 from rfl] at hx137_0)
         (try rw [Addr.add_zero'] at hx137_0)
         replace p137 := eq_true p137
         replace q137 := eq_true q137
         go_wp2
         go_ret
         exact ⟨by first | rfl | (simp [errW_none, errW_some] <;> rfl) | (simp [*, errW_none, errW_some] <;> rfl), by repeat (first | (with_reducible first | exact HB.out | apply below_alloc | apply pw_below_drewN | apply below_drew1) | exact HB.out)⟩
        ·rw [if_neg c28] at H
         have c28b0 : decide ((wrap64 ((wrap64 (1 + (Go.bits .and .i64 a2 7))) * (rd t134 0))) < (Int.tmod a0 10)) = false := decide_eq_false c28
         clear c28
         by_cases c30 : (wrap64 ((wrap64 (1 + (Go.bits .and .i64 a2 7))) * (rd t134 0))) > (Int.tmod a1 10)
         ·rw [if_pos c30] at H
          have c30b0 : decide ((Int.tmod a1 10) < (wrap64 ((wrap64 (1 + (Go.bits .and .i64 a2 7))) * (rd t134 0)))) = true := decide_eq_true c30
          clear c30
          obtain rfl := Option.some.inj H
          obtain ⟨Ao31, co31, eo31⟩ := Kd.R_slice HO_10.out
          subst eo31
          have p137 : 0 ≤ (0 : Int) := (by omega)
          have q137 : 0 < (t134.length : Int) := of_decide_eq_true Z2z1
          obtain ⟨ad137, e137, hx137_0⟩ := Kd.at_int (Kd.R_reads' HO_10.out).2.2 0 p137 q137
          cases e137
          have qi137 : (0 < t134.length) = True := eq_true (by omega)
          (try rw [show ((0 : Int)).toNat = 0 from rfl] at hx137_0)
          (try rw [Addr.add_zero'] at hx137_0)
          replace p137 := eq_true p137
          replace q137 := eq_true q137
          have p138 : 0 ≤ (0 : Int) := (by omega)
          have q138 : 0 < (t134.length : Int) := of_decide_eq_true Z2z1
          obtain ⟨ad138, e138, hx138_0⟩ := Kd.at_int (Kd.R_reads' HO_10.out).2.2 0 p138 q138
          obtain rfl : ad137 = ad138 := (by injection e138)
          have qi138 : (0 < t134.length) = True := eq_true (by omega)
          (try rw [show ((0 : Int)).toNat = 0 from rfl] at hx138_0)
          (try rw [Addr.add_zero'] at hx138_0)
          replace p138 := eq_true p138
          replace q138 := eq_true q138
          go_wp2
          go_ret
          exact ⟨by first | rfl | (simp [errW_none, errW_some] <;> rfl) | (simp [*, errW_none, errW_some] <;> rfl), by repeat (first | (with_reducible first | exact HB.out | apply below_alloc | apply pw_below_drewN | apply below_drew1) | exact HB.out)⟩
         ·rw [if_neg c30] at H
          have c30b0 : decide ((Int.tmod a1 10) < (wrap64 ((wrap64 (1 + (Go.bits .and .i64 a2 7))) * (rd t134 0)))) = false := decide_eq_false c30
          clear c30
          by_cases c32 : t117 = true
          ·subst c32
           have H1 : (if ((t133 == 1) == x11_1) = true then (some ((t133 == 2) == (!x11_1))) else (some false)) = some r := by rw [if_pos rfl] at H; exact H
           clear H
           have H := H1
           clear H1
           by_cases c33 : ((t133 == 1) == x11_1) = true
           ·rw [if_pos c33] at H
            have c33b0 : ((t133 == 1) == x11_1) = true := c33
            (try (have c33b1 : decide ((t133 == 1) = x11_1) = true := by simpa using c33))
            (try (have c33b2 : ((t133 == 1) == x11_1) = true := by simpa using c33))
            clear c33
            obtain rfl := Option.some.inj H
            obtain rfl : x11_1 = true := by rw [c25b0] at c33b0; revert c33b0; cases x11_1 <;> decide
            obtain rfl : t133 = 1 := eq_of_beq c25b0
            obtain ⟨Ao34, co34, eo34⟩ := Kd.R_slice HO_10.out
            subst eo34
            have p137 : 0 ≤ (0 : Int) := (by omega)
            have q137 : 0 < (t134.length : Int) := of_decide_eq_true Z2z1
            obtain ⟨ad137, e137, hx137_0⟩ := Kd.at_int (Kd.R_reads' HO_10.out).2.2 0 p137 q137
            cases e137
            have qi137 : (0 < t134.length) = True := eq_true (by omega)
            (try rw [show ((0 : Int)).toNat = 0 from rfl] at hx137_0)
            (try rw [Addr.add_zero'] at hx137_0)
            replace p137 := eq_true p137
            replace q137 := eq_true q137
            have p138 : 0 ≤ (0 : Int) := (by omega)
            have q138 : 0 < (t134.length : Int) := of_decide_eq_true Z2z1
            obtain ⟨ad138, e138, hx138_0⟩ := Kd.at_int (Kd.R_reads' HO_10.out).2.2 0 p138 q138
            obtain rfl : ad137 = ad138 := (by injection e138)
            have qi138 : (0 < t134.length) = True := eq_true (by omega)
            (try rw [show ((0 : Int)).toNat = 0 from rfl] at hx138_0)
            (try rw [Addr.add_zero'] at hx138_0)
            replace p138 := eq_true p138
            replace q138 := eq_true q138
            go_wp2
            go_ret
            exact ⟨by first | rfl | (simp [errW_none, errW_some] <;> rfl) | (simp [*, errW_none, errW_some] <;> rfl), by repeat (first | (with_reducible first | exact HB.out | apply below_alloc | apply pw_below_drewN | apply below_drew1) | exact HB.out)⟩
           ·rw [if_neg c33] at H
            have c33b0 : ((t133 == 1) == x11_1) = false := by simpa using c33
            (try (have c33b1 : decide ((t133 == 1) = x11_1) = false := by simpa using c33))
            (try (have c33b2 : ((t133 == 1) == x11_1) = false := by simpa using c33))
            (try (have c33b3 : ¬ ((t133 == 1) = x11_1) := by simpa using c33))
            clear c33
            obtain rfl := Option.some.inj H
            obtain rfl : x11_1 = false := by rw [c25b0] at c33b0; revert c33b0; cases x11_1 <;> decide
            obtain rfl : t133 = 1 := eq_of_beq c25b0
            obtain ⟨Ao35, co35, eo35⟩ := Kd.R_slice HO_10.out
            subst eo35
            have p137 : 0 ≤ (0 : Int) := (by omega)
            have q137 : 0 < (t134.length : Int) := of_decide_eq_true Z2z1
            obtain ⟨ad137, e137, hx137_0⟩ := Kd.at_int (Kd.R_reads' HO_10.out).2.2 0 p137 q137
            cases e137
            have qi137 : (0 < t134.length) = True := eq_true (by omega)
            (try rw [show ((0 : Int)).toNat = 0 from rfl] at hx137_0)
            (try rw [Addr.add_zero'] at hx137_0)
            replace p137 := eq_true p137
            replace q137 := eq_true q137
            have p138 : 0 ≤ (0 : Int) := (by omega)
            have q138 : 0 < (t134.length : Int) := of_decide_eq_true Z2z1
            obtain ⟨ad138, e138, hx138_0⟩ := Kd.at_int (Kd.R_reads' HO_10.out).2.2 0 p138 q138
            obtain rfl : ad137 = ad138 := (by injection e138)
            have qi138 : (0 < t134.length) = True := eq_true (by omega)
            (try rw [show ((0 : Int)).toNat = 0 from rfl] at hx138_0)
            (try rw [Addr.add_zero'] at hx138_0)
            replace p138 := eq_true p138
            replace q138 := eq_true q138
            go_wp2
            go_ret
            exact ⟨by first | rfl | (simp [errW_none, errW_some] <;> rfl) | (simp [*, errW_none, errW_some] <;> rfl), by repeat (first | (with_reducible first | exact HB.out | apply below_alloc | apply pw_below_drewN | apply below_drew1) | exact HB.out)⟩
          ·replace c32 := Bool.eq_false_iff.mpr c32
           subst c32
           have H1 : (some false) = some r := by rw [if_neg (show ¬ (false = true) by decide)] at H; exact H
           clear H
           have H := H1
           clear H1
           obtain rfl := Option.some.inj H
           obtain ⟨Ao36, co36, eo36⟩ := Kd.R_slice HO_10.out
           subst eo36
           have p137 : 0 ≤ (0 : Int) := (by omega)
           have q137 : 0 < (t134.length : Int) := of_decide_eq_true Z2z1
           obtain ⟨ad137, e137, hx137_0⟩ := Kd.at_int (Kd.R_reads' HO_10.out).2.2 0 p137 q137
           cases e137
           have qi137 : (0 < t134.length) = True := eq_true (by omega)
           (try rw [show ((0 : Int)).toNat = 0 from rfl] at hx137_0)
           (try rw [Addr.add_zero'] at hx137_0)
           replace p137 := eq_true p137
           replace q137 := eq_true q137
           have p138 : 0 ≤ (0 : Int) := (by omega)
           have q138 : 0 < (t134.length : Int) := of_decide_eq_true Z2z1
           obtain ⟨ad138, e138, hx138_0⟩ := Kd.at_int (Kd.R_reads' HO_10.out).2.2 0 p138 q138
           obtain rfl : ad137 = ad138 := (by injection e138)
           have qi138 : (0 < t134.length) = True := eq_true (by omega)
           (try rw [show ((0 : Int)).toNat = 0 from rfl] at hx138_0)
           (try rw [Addr.add_zero'] at hx138_0)
           replace p138 := eq_true p138
           replace q138 := eq_true q138
           go_wp2
           go_ret
           exact ⟨by first | rfl | (simp [errW_none, errW_some] <;> rfl) | (simp [*, errW_none, errW_some] <;> rfl), by repeat (first | (with_reducible first | exact HB.out | apply below_alloc | apply pw_below_drewN | apply below_drew1) | exact HB.out)⟩
       ·rw [if_neg c27] at H
        exact absurd H (by simp)
      ·rw [if_neg c26] at H
       have c26b0 : ((t134.length : Int) == 1) = false := beq_eq_false_iff_ne.mpr c26
       have c26b1 : ((t134.length : Int) != 1) = true := bne_iff_ne.mpr c26
       obtain rfl := Option.some.inj H
       obtain ⟨Ao37, co37, eo37⟩ := Kd.R_slice HO_10.out
       subst eo37
       go_wp2
       go_ret
       exact ⟨by first | rfl | (simp [errW_none, errW_some] <;> rfl) | (simp [*, errW_none, errW_some] <;> rfl), by repeat (first | (with_reducible first | exact HB.out | apply below_alloc | apply pw_below_drewN | apply below_drew1) | exact HB.out)⟩
     ·rw [if_neg c25] at H
      have c25b0 : (t133 == 1) = false := beq_eq_false_iff_ne.mpr c25
      have c25b1 : (t133 != 1) = true := bne_iff_ne.mpr c25
      by_cases c38 : t117 = true
      ·subst c38
       have H1 : (if ((t133 == 1) == x11_1) = true then (some ((t133 == 2) == (!x11_1))) else (some false)) = some r := by rw [if_pos rfl] at H; exact H
       clear H
       have H := H1
       clear H1
       by_cases c39 : ((t133 == 1) == x11_1) = true
       ·rw [if_pos c39] at H
        have c39b0 : ((t133 == 1) == x11_1) = true := c39
        (try (have c39b1 : decide ((t133 == 1) = x11_1) = true := by simpa using c39))
        (try (have c39b2 : ((t133 == 1) == x11_1) = true := by simpa using c39))
        clear c39
        obtain rfl := Option.some.inj H
        obtain rfl : x11_1 = false := by rw [c25b0] at c39b0; revert c39b0; cases x11_1 <;> decide
        go_wp2
        go_ret
        exact ⟨by first | rfl | (simp [errW_none, errW_some] <;> rfl) | (simp [*, errW_none, errW_some] <;> rfl), by repeat (first | (with_reducible first | exact HB.out | apply below_alloc | apply pw_below_drewN | apply below_drew1) | exact HB.out)⟩
       ·rw [if_neg c39] at H
        have c39b0 : ((t133 == 1) == x11_1) = false := by simpa using c39
        (try (have c39b1 : decide ((t133 == 1) = x11_1) = false := by simpa using c39))
        (try (have c39b2 : ((t133 == 1) == x11_1) = false := by simpa using c39))
        (try (have c39b3 : ¬ ((t133 == 1) = x11_1) := by simpa using c39))
        clear c39
        obtain rfl := Option.some.inj H
        obtain rfl : x11_1 = true := by rw [c25b0] at c39b0; revert c39b0; cases x11_1 <;> decide
        go_wp2
        go_ret
        exact ⟨by first | rfl | (simp [errW_none, errW_some] <;> rfl) | (simp [*, errW_none, errW_some] <;> rfl), by repeat (first | (with_reducible first | exact HB.out | apply below_alloc | apply pw_below_drewN | apply below_drew1) | exact HB.out)⟩
      ·replace c38 := Bool.eq_false_iff.mpr c38
       subst c38
       have H1 : (some false) = some r := by rw [if_neg (show ¬ (false = true) by decide)] at H; exact H
       clear H
       have H := H1
       clear H1
       obtain rfl := Option.some.inj H
       go_wp2
       go_ret
       exact ⟨by first | rfl | (simp [errW_none, errW_some] <;> rfl) | (simp [*, errW_none, errW_some] <;> rfl), by repeat (first | (with_reducible first | exact HB.out | apply below_alloc | apply pw_below_drewN | apply below_drew1) | exact HB.out)⟩
 ·rw [if_neg c6] at H
  exact absurd H (by simp)
def ashlarlaw12_WholeTimes.Pure : Prop := ∀ (a0 : Int) (a1 : Int) (a2 : Int), (Lit.int .i64 a0).wf = true → (Lit.int .i64 a1).wf = true → (Lit.int .i64 a2).wf = true → ∃ k, ashlarlaw12_WholeTimes.f k a0 a1 a2 = some true
theorem ashlarlaw12_WholeTimes.walk (P : ashlarlaw12_WholeTimes.Pure) (a0 : Int) (a1 : Int) (a2 : Int) (w : World) (w0 : (Lit.int .i64 a0).wf = true) (w1 : (Lit.int .i64 a1).wf = true) (w2 : (Lit.int .i64 a2).wf = true) :
  Calls Try.prog 4 #[.int .i64 a0, .int .i64 a1, .int .i64 a2] w fun e w' => e = .returned (.bool true) ∧ Below w.heap.size w w' := by
 obtain ⟨k, h⟩ := P a0 a1 a2 w0 w1 w2
 refine (ashlarlaw12_WholeTimes.calls k a0 a1 a2 true w h).mono ?_
 rintro e w' ⟨rfl, hd⟩
 exact ⟨rfl, hd⟩
end Go.Proofs.Ytmcfcmijopbinaa.PWholeTimes
