-- Written by a program of this session (myprint.py) out of the translation, with contracts of this session given.
import Derived.Test.YtdkbnbebioflaaaLnFew
namespace Go.Proofs
theorem Z310 {p : Prop} (h : p := by kernel_rfl) : p := h
theorem Z311 {p : Prop} (h : p := by (try simp only [List.map_toArray, List.map_cons, List.map_nil]); first | done | rfl | (simp only [List.length_drop, List.length_take]; rfl)) : p := h
theorem Z312 {p : Prop} (h : p := by repeat (first | (with_reducible first | exact HB.out | apply below_alloc | apply pw_below_drewN | apply below_drew1) | exact HB.out)) : p := h
theorem Z313 {p : Prop} (h : p := by first | rfl | (simp; done) | (simp [*]; done)) : p := h
theorem Z314 {p : Prop} (h : p := by first | (with_reducible assumption) | assumption) : p := h
theorem Z315 {p : Prop} (h : p := by (with_reducible repeat (first | apply Kd.S_alloc | apply Kd.S_drewN | apply Kd.S_drew)); exact HO_0.out) : p := h
theorem Z316 {p : Prop} (h : p := by (with_reducible repeat (first | apply Kd.R_alloc | apply Kd.R_drewN | apply Kd.R_drew)); exact HO_10.out) : p := h
theorem Z317 {p : Prop} (h : p := by simp only [putAll, Act.put, List.setIfInBounds_toArray, List.set_cons_zero, List.set_cons_succ]) : p := h
theorem Z318 {p : Prop} (h : p := by (with_reducible repeat (first | apply Kd.R_alloc | apply Kd.R_drewN | apply Kd.R_drew)); exact Kd.R_mono HO_10.out (fun _ hk => hk.2)) : p := h
theorem Z319 {p : Prop} (h : p := by (with_reducible repeat (first | refine blk_drewN ?_ _ | refine blk_drew ?_ | refine blk_alloc ?_ _)); exact BK110.out) : p := h
theorem Z31a {p : Prop} (h : p := by repeat (first | (with_reducible first | exact HB.out | apply below_alloc | apply pw_below_drewN | apply below_drew1 | refine below_set ?_ GE110.out) | exact HB.out)) : p := h
theorem Z31f {p : Prop} (h : p := by have := World.block_lt_of_cell? _ _ hw105_0; first | rwa [add_block] at this | exact this) : p := h
theorem Z31b {p : Prop} (h : p := by first | exact Nat.ne_of_lt (Nat.lt_of_lt_of_le Z31f GW110.out) | (rw [add_block]; exact Nat.ne_of_lt (Nat.lt_of_lt_of_le Z31f GW110.out)) | (show (Addr.add _ _).block ≠ _; rw [add_block]; exact Nat.ne_of_lt (Nat.lt_of_lt_of_le Z31f GW110.out)) | (dsimp only; exact Nat.ne_of_lt (Nat.lt_of_lt_of_le Z31f GW110.out))) : p := h
theorem Z31g {p : Prop} (h : p := by have := World.block_lt_of_cell? _ _ hw106_0; first | rwa [add_block] at this | exact this) : p := h
theorem Z31c {p : Prop} (h : p := by first | exact Nat.ne_of_lt (Nat.lt_of_lt_of_le Z31g GW110.out) | (rw [add_block]; exact Nat.ne_of_lt (Nat.lt_of_lt_of_le Z31g GW110.out)) | (show (Addr.add _ _).block ≠ _; rw [add_block]; exact Nat.ne_of_lt (Nat.lt_of_lt_of_le Z31g GW110.out)) | (dsimp only; exact Nat.ne_of_lt (Nat.lt_of_lt_of_le Z31g GW110.out))) : p := h
theorem Z31d {p : Prop} (h : p := by (with_reducible repeat (first | refine blk_drewN ?_ _ | refine blk_drew ?_ | refine blk_alloc ?_ _)); refine blk_put (cs := #[.int .i64 t107, .int .i64 0]) ?_ 1 _ rfl; (with_reducible repeat (first | refine blk_drewN ?_ _ | refine blk_drew ?_ | refine blk_alloc ?_ _)); refine blk_put (cs := #[.int .i64 0, .int .i64 0]) ?_ 0 _ rfl; (with_reducible repeat (first | refine blk_drewN ?_ _ | refine blk_drew ?_ | refine blk_alloc ?_ _)); exact BK110.out) : p := h
theorem Z31e {p : Prop} (h : p := by (with_reducible repeat (first | apply Kd.R_alloc | apply Kd.R_drewN | apply Kd.R_drew)); exact HO_14.out) : p := h
end Go.Proofs
namespace Go.Proofs.Ytdkbnbebioflaaa.PLinearNever
open Go.RowKit Go.Proofs.Ytdkbnbebioflaaa.Given Go.Proofs.Ytdkbnbebioflaaa.Ln Go.Proofs.YtdkbnbebioflaaaW.PrintWords Go.Proofs.YtdkbnbebioflaaaW.PrintLast Go.Proofs.YtdkbnbebioflaaaW.PrintMore
attribute [local go_sem] max2_int min2_int max_two min_two max_three min_three max_four min_four   -- for this text's walks alone
set_option linter.unusedVariables false
set_option linter.unusedSimpArgs false

/-! ### ashlarlaw11_LinearNever: function 3 -/
mutual
def ashlarlaw11_LinearNever.l0 : Nat → List (S38) → List Int → List Int → List Int → Bool → List (S29) → Int → Option (Bool)
  | 0, _, _, _, _, _, _, _ => none
  | k + 1, x0, x1, x2, x3, x9, x10, x11 => if x11 < (x1.length : Int) then (if x11 < (x2.length : Int) then (ashlarlaw11_LinearNever.j1 k x0 x1 x2 x3 x9 x10 x11 (decide (x11 < 70))) else (ashlarlaw11_LinearNever.j1 k x0 x1 x2 x3 x9 x10 x11 false)) else (ashlarlaw11_LinearNever.j1 k x0 x1 x2 x3 x9 x10 x11 false)
def ashlarlaw11_LinearNever.j1 : Nat → List (S38) → List Int → List Int → List Int → Bool → List (S29) → Int → Bool → Option (Bool)
  | 0, _, _, _, _, _, _, _, _ => none
  | k + 1, x0, x1, x2, x3, x9, x10, x11, x32 => if x32 = true then (if 0 ≤ x11 then (if x11 < (x1.length : Int) then (if x11 < (x2.length : Int) then ((num_Make.f (wrap64 (rd x1 x11)) (wrap64 (rd x2 x11))).bind fun bt107 => (if bt107.2.2 = true then (if x10.length < 8796093022208 then (ashlarlaw11_LinearNever.l0 k x0 x1 x2 x3 x9 (x10 ++ [(⟨bt107.1, bt107.2.1⟩ : S29)]) (wrap64 (x11 + 1))) else (none)) else (ashlarlaw11_LinearNever.l0 k x0 x1 x2 x3 x9 x10 (wrap64 (x11 + 1))))) else (none)) else (none)) else (none)) else (ashlarlaw11_LinearNever.l1 k x0 x3 x9 x10 ([] : List Int) 0)
def ashlarlaw11_LinearNever.l1 : Nat → List (S38) → List Int → Bool → List (S29) → List Int → Int → Option (Bool)
  | 0, _, _, _, _, _, _ => none
  | k + 1, x0, x3, x9, x10, x14, x15 => if x15 < (x3.length : Int) then (if x15 < 30 then (if 0 ≤ x15 then (if x14.length < 17592186044416 then (ashlarlaw11_LinearNever.l1 k x0 x3 x9 x10 (x14 ++ [wrap64 (rd x3 x15)]) (wrap64 (x15 + 1))) else (none)) else (none)) else (if x9 = true then ((linear_CheckPoint.f x0 x10).bind fun t118 => (if t118 = true then ((linear_CheckFarkas.f x0 x14).bind fun t119 => (some (!t119))) else (some true))) else (some false))) else (if x9 = true then ((linear_CheckPoint.f x0 x10).bind fun t120 => (if t120 = true then ((linear_CheckFarkas.f x0 x14).bind fun t121 => (some (!t121))) else (some true))) else (some false))
end
def ashlarlaw11_LinearNever.f (k : Nat) (l0 : List (S38)) (l1 : List Int) (l2 : List Int) (l3 : List Int) : Option (Bool) := (ashlarlaw11_shown.f).bind fun t101 => ((ashlarlaw11_few.f l0).bind fun t102 => (ashlarlaw11_LinearNever.l0 k t102 l1 l2 l3 t101 ([] : List (S29)) 0))
theorem ashlarlaw11_LinearNever.mono_l : ∀ k, (∀ y0 y1 y2 y3 y4 y5 y6, LeO (ashlarlaw11_LinearNever.l0 k y0 y1 y2 y3 y4 y5 y6) (ashlarlaw11_LinearNever.l0 (k + 1) y0 y1 y2 y3 y4 y5 y6)) ∧ (∀ y0 y1 y2 y3 y4 y5 y6 y7, LeO (ashlarlaw11_LinearNever.j1 k y0 y1 y2 y3 y4 y5 y6 y7) (ashlarlaw11_LinearNever.j1 (k + 1) y0 y1 y2 y3 y4 y5 y6 y7)) ∧ (∀ y0 y1 y2 y3 y4 y5, LeO (ashlarlaw11_LinearNever.l1 k y0 y1 y2 y3 y4 y5) (ashlarlaw11_LinearNever.l1 (k + 1) y0 y1 y2 y3 y4 y5))
  | 0 => ⟨fun _ _ _ _ _ _ _ r h => by simp [ashlarlaw11_LinearNever.l0] at h, fun _ _ _ _ _ _ _ _ r h => by simp [ashlarlaw11_LinearNever.j1] at h, fun _ _ _ _ _ _ r h => by simp [ashlarlaw11_LinearNever.l1] at h⟩
  | k + 1 => by
    obtain ⟨ih0, ih1, ih2⟩ := ashlarlaw11_LinearNever.mono_l k
    refine ⟨?_, ?_, ?_⟩
    · intro y0 y1 y2 y3 y4 y5 y6
      unfold ashlarlaw11_LinearNever.l0
      repeat' first
      | (with_reducible exact ih0 _ _ _ _ _ _ _)
      | (with_reducible exact ih1 _ _ _ _ _ _ _ _)
      | (with_reducible exact ih2 _ _ _ _ _ _)
      | (with_reducible exact LeO.refl _)
      | (with_reducible exact LeO.none _)
      | (with_reducible refine LeO.ite ?_ ?_)
      | (with_reducible refine LeO.bind ?_ (fun _ => ?_))
      | exact ih0 _ _ _ _ _ _ _
      | exact ih1 _ _ _ _ _ _ _ _
      | exact ih2 _ _ _ _ _ _
      | exact LeO.none _
      | refine LeO.ite ?_ ?_
      | refine LeO.bind ?_ (fun _ => ?_)
    · intro y0 y1 y2 y3 y4 y5 y6 y7
      unfold ashlarlaw11_LinearNever.j1
      repeat' first
      | (with_reducible exact ih0 _ _ _ _ _ _ _)
      | (with_reducible exact ih1 _ _ _ _ _ _ _ _)
      | (with_reducible exact ih2 _ _ _ _ _ _)
      | (with_reducible exact LeO.refl _)
      | (with_reducible exact LeO.none _)
      | (with_reducible refine LeO.ite ?_ ?_)
      | (with_reducible refine LeO.bind ?_ (fun _ => ?_))
      | exact ih0 _ _ _ _ _ _ _
      | exact ih1 _ _ _ _ _ _ _ _
      | exact ih2 _ _ _ _ _ _
      | exact LeO.none _
      | refine LeO.ite ?_ ?_
      | refine LeO.bind ?_ (fun _ => ?_)
    · intro y0 y1 y2 y3 y4 y5
      unfold ashlarlaw11_LinearNever.l1
      repeat' first
      | (with_reducible exact ih0 _ _ _ _ _ _ _)
      | (with_reducible exact ih1 _ _ _ _ _ _ _ _)
      | (with_reducible exact ih2 _ _ _ _ _ _)
      | (with_reducible exact LeO.refl _)
      | (with_reducible exact LeO.none _)
      | (with_reducible refine LeO.ite ?_ ?_)
      | (with_reducible refine LeO.bind ?_ (fun _ => ?_))
      | exact ih0 _ _ _ _ _ _ _
      | exact ih1 _ _ _ _ _ _ _ _
      | exact ih2 _ _ _ _ _ _
      | exact LeO.none _
      | refine LeO.ite ?_ ?_
      | refine LeO.bind ?_ (fun _ => ?_)
theorem ashlarlaw11_LinearNever.mono : ∀ a0 a1 a2 a3 k, LeO (ashlarlaw11_LinearNever.f k a0 a1 a2 a3) (ashlarlaw11_LinearNever.f (k + 1) a0 a1 a2 a3) := by
  intro a0 a1 a2 a3 k
  obtain ⟨ih0, ih1, ih2⟩ := ashlarlaw11_LinearNever.mono_l k
  unfold ashlarlaw11_LinearNever.f
  repeat' first
      | (with_reducible exact ih0 _ _ _ _ _ _ _)
      | (with_reducible exact ih1 _ _ _ _ _ _ _ _)
      | (with_reducible exact ih2 _ _ _ _ _ _)
      | (with_reducible exact LeO.refl _)
      | (with_reducible exact LeO.none _)
      | (with_reducible refine LeO.ite ?_ ?_)
      | (with_reducible refine LeO.bind ?_ (fun _ => ?_))
      | exact ih0 _ _ _ _ _ _ _
      | exact ih1 _ _ _ _ _ _ _ _
      | exact ih2 _ _ _ _ _ _
      | exact LeO.none _
      | refine LeO.ite ?_ ?_
      | refine LeO.bind ?_ (fun _ => ?_)
def ashlarlaw11_LinearNever.T7 : Bool × List (List Nat × List Nat) := (true, [([], []), ([], []), ([0, 1], [0, 1]), ([2], [2]), ([3], [3]), ([], []), ([], []), ([5, 6], [5, 6]), ([7], [7]), ([8], [8]), ([4, 9], [4, 9]), ([10], [10]), ([11], [11]), ([11], [11]), ([], []), ([14, 12, 10, 0, 1, 2, 3, 4, 5, 6, 7, 8, 9, 10, 11, 12, 14], [12, 14]), ([13, 15, 0, 1, 2, 3, 4, 5, 6, 7, 8, 9, 10, 11, 12, 13, 14, 15], [13])])
def ashlarlaw11_LinearNever.B7 : List Nat := [0, 0, 3, 7, 15, 0, 0, 96, 224, 480, 1023, 2047, 4095, 4095, 0, 24575, 65535]
theorem ashlarlaw11_LinearNever.tab7 : rtab .any (opsOf Try.f3 7) = ashlarlaw11_LinearNever.T7 := by kernel_rfl
theorem ashlarlaw11_LinearNever.bits7 : waitsOk ashlarlaw11_LinearNever.T7.2 ashlarlaw11_LinearNever.B7 = true := by kernel_rfl
set_option maxHeartbeats 8000000 in
set_option maxRecDepth 100000 in
theorem ashlarlaw11_LinearNever.calls (k : Nat) (A0 : Option Addr) (c0 : Nat) (l0 : List (S38)) (A1 : Option Addr) (c1 : Nat) (l1 : List Int) (A2 : Option Addr) (c2 : Nat) (l2 : List Int) (A3 : Option Addr) (c3 : Nat) (l3 : List Int) (r : Bool) (w : World) (hr0 : Kd.C k38 w A0 l0.length l0) (hc0 : l0.length ≤ c0) (hr1 : Kd.C (Kd.int .i8) w A1 l1.length l1) (hc1 : l1.length ≤ c1) (hr2 : Kd.C (Kd.int .u8) w A2 l2.length l2) (hc2 : l2.length ≤ c2) (hr3 : Kd.C (Kd.int .u8) w A3 l3.length l3) (hc3 : l3.length ≤ c3) (h : ashlarlaw11_LinearNever.f k l0 l1 l2 l3 = some r) :
    Calls Try.prog 3 #[.slice A0 l0.length c0, .slice A1 l1.length c1, .slice A2 l2.length c2, .slice A3 l3.length c3] w fun e w' => e = .returned (.bool r) ∧ Below w.heap.size w w' := by
  have hu29 := Try.underlying29
  have HR0 := Aside0.mk hr0
  have HC0 := Aside0.mk hc0
  clear hr0 hc0
  have HR1 := Aside0.mk hr1
  have HC1 := Aside0.mk hc1
  clear hr1 hc1
  have HR2 := Aside0.mk hr2
  have HC2 := Aside0.mk hc2
  clear hr2 hc2
  have HR3 := Aside0.mk hr3
  have HC3 := Aside0.mk hc3
  clear hr3 hc3
  have HB := Aside0.mk (Below.refl w.heap.size w)
  have H : ((ashlarlaw11_shown.f).bind fun t101 => ((ashlarlaw11_few.f l0).bind fun t102 => (ashlarlaw11_LinearNever.l0 k t102 l1 l2 l3 t101 ([] : List (S29)) 0))) = some r := h
  clear h
  replace H := Option.bind_eq_some_iff.mp H
  obtain ⟨t101, A50, H⟩ := H
  replace H : ((ashlarlaw11_few.f l0).bind fun t102 => (ashlarlaw11_LinearNever.l0 k t102 l1 l2 l3 t101 ([] : List (S29)) 0)) = some r := H
  have A5 := Aside0.mk A50
  clear A50
  replace H := Option.bind_eq_some_iff.mp H
  obtain ⟨t102, A60, H⟩ := H
  replace H : (ashlarlaw11_LinearNever.l0 k t102 l1 l2 l3 t101 ([] : List (S29)) 0) = some r := H
  have A6 := Aside0.mk A60
  clear A60
  have H' := Aside0.mk H
  clear H
  go_enter Try.func3, Try.ntmps3
  go_wp2_with (first | ((with_reducible refine gate_callee (f := 6) rfl ?_); refine goesL_ (some 16) rfl rfl Try.func6 Z310 rfl #[] rfl Z311 ?_; (with_reducible refine (ashlarlaw11_shown.calls  t101 _ A5.out).mono ?_); rintro e w7 ⟨rfl, hb⟩; refine ⟨_, rfl, ?_⟩; have n0_ := Aside0.mk (below_step Z312 hb); clear HB; have HB := n0_; clear n0_; (try clear hb); (try clear hb2); (try clear hk); (try clear hi)) | ((with_reducible refine gate_callee (f := 7) rfl ?_); refine goesL_ (some 18) rfl rfl Try.func7 Z310 rfl #[.slice A0 l0.length c0] rfl Z311 ?_; (with_reducible refine (ashlarlaw11_few.calls _ _ l0 t102 _ ?side1 ?side2 A6.out).mono ?_); (case side1 => repeat (first | exact (Kd.C_below HR0.out HB.out) | (with_reducible refine Kd.C_alloc ?_ _) | (with_reducible refine Kd.C_drewN ?_ _) | (with_reducible refine Kd.C_drew ?_))); (case side2 => exact HC0.out); rintro e w8 ⟨v103, rfl, ho0, hb⟩; refine ⟨_, rfl, ?_⟩; have n0_ := Aside0.mk (Kd.S_lower ho0 (below_size Z312)); have n1_ := Aside0.mk (below_step Z312 hb); clear HB; have HO104 := n0_; have HB := n1_; clear n0_ n1_; (try clear hb); (try clear hb2); (try clear hk); (try clear hi); (try clear ho0)))
  go_loopg [10, 11] k (fun kq v10 v11 w' => ∃ (x10_1 : List (S29)) (x11_1 : Int), v11 = .int .i64 x11_1 ∧ Aside0 (ashlarlaw11_LinearNever.l0 kq t102 l1 l2 l3 t101 x10_1 x11_1 = some r) ∧ Aside0 (kq ≤ k) ∧ Aside0 (Kd.S k38 38 w' w.heap.size (fun _ => True) v103 t102) ∧ Aside0 (Kd.R k29 29 w' w.heap.size (fun _ => True) v10 x10_1) ∧ Aside0 (Below w.heap.size w w'))
  case atStart => exact ⟨(([] : List (S29))), (0), Z313, H', ⟨Nat.le_refl _⟩, ⟨by (with_reducible repeat (first | apply Kd.S_alloc | apply Kd.S_drewN | apply Kd.S_drew)); exact HO104.out⟩, ⟨by first | exact Kd.R_nil _ _ _ _ _ | exact Kd.N_nil _ _ _ _ _ | exact Kd.V_nil _ _ _ _ _ | exact Kd.Q_nil _ _ _ _ _ | exact Kd.S_nil _ _ _ _ _⟩, ⟨by repeat (first | (with_reducible first | exact HB.out | apply below_alloc | apply pw_below_drewN | apply below_drew1) | exact HB.out)⟩⟩
  case round =>
    clear H'
    try clear c1
    try clear c2
    try clear p2
    try clear c3
    try clear c6
    try clear c7
    obtain ⟨x10_1, x11_1, rfl, HA, HK1, HO_0, HO_10, HB⟩ := hrel
    cases gk with
    | zero => exact absurd HA.out (by simp [ashlarlaw11_LinearNever.l0])
    | succ k1 =>
      have H := HA.out
      clear HA
      simp only [ashlarlaw11_LinearNever.l0] at H
      have HC9 := Aside0.mk H
      clear H
      go_upto_region 5 with (fail)
      go_cut [32] (fun v32 wc => ∃ (kq : Nat) (x32_8 : Bool), v32 = .bool x32_8 ∧ Aside0 (ashlarlaw11_LinearNever.j1 kq t102 l1 l2 l3 t101 x10_1 x11_1 x32_8 = some r) ∧ Aside0 (kq ≤ k1) ∧ Aside0 (Kd.S k38 38 wc w.heap.size (fun _ => True) v103 t102) ∧ Aside0 (Kd.R k29 29 wc w.heap.size (fun _ => True) u10 x10_1) ∧ Aside0 (Below w.heap.size w wc))
      case first =>
        have H := HC9.out
        clear HC9
        by_cases c10 : x11_1 < (l1.length : Int)
        · rw [if_pos c10] at H
          have c10b0 : decide (x11_1 < (l1.length : Int)) = true := decide_eq_true c10
          clear c10
          (first | rw [c10b0] | (simp only [i64_w, i32_w]; rw [c10b0]) | skip)
          by_cases c11 : x11_1 < (l2.length : Int)
          · rw [if_pos c11] at H
            have c11b0 : decide (x11_1 < (l2.length : Int)) = true := decide_eq_true c11
            clear c11
            have H' := Aside0.mk H
            clear H
            go_wp2
            go_meet
            case rel => exact ⟨_, (decide (x11_1 < 70)), Z313, H', ⟨by have := HK1.out; first | omega | exact Nat.le_refl _⟩, ⟨by (with_reducible repeat (first | apply Kd.S_alloc | apply Kd.S_drewN | apply Kd.S_drew)); exact HO_0.out⟩, ⟨by (with_reducible repeat (first | apply Kd.R_alloc | apply Kd.R_drewN | apply Kd.R_drew)); exact HO_10.out⟩, ⟨by repeat (first | (with_reducible first | exact HB.out | apply below_alloc | apply pw_below_drewN | apply below_drew1) | exact HB.out)⟩⟩
          · rw [if_neg c11] at H
            have c11b0 : decide (x11_1 < (l2.length : Int)) = false := decide_eq_false c11
            clear c11
            have H' := Aside0.mk H
            clear H
            go_wp2
            go_meet
            case rel => exact ⟨_, (false), Z313, H', ⟨by have := HK1.out; first | omega | exact Nat.le_refl _⟩, ⟨by (with_reducible repeat (first | apply Kd.S_alloc | apply Kd.S_drewN | apply Kd.S_drew)); exact HO_0.out⟩, ⟨by (with_reducible repeat (first | apply Kd.R_alloc | apply Kd.R_drewN | apply Kd.R_drew)); exact HO_10.out⟩, ⟨by repeat (first | (with_reducible first | exact HB.out | apply below_alloc | apply pw_below_drewN | apply below_drew1) | exact HB.out)⟩⟩
        · rw [if_neg c10] at H
          have c10b0 : decide (x11_1 < (l1.length : Int)) = false := decide_eq_false c10
          clear c10
          (first | rw [c10b0] | (simp only [i64_w, i32_w]; rw [c10b0]) | skip)
          have H' := Aside0.mk H
          clear H
          go_wp2
          go_meet
          case rel => exact ⟨_, (false), Z313, H', ⟨by have := HK1.out; first | omega | exact Nat.le_refl _⟩, ⟨by (with_reducible repeat (first | apply Kd.S_alloc | apply Kd.S_drewN | apply Kd.S_drew)); exact HO_0.out⟩, ⟨by (with_reducible repeat (first | apply Kd.R_alloc | apply Kd.R_drewN | apply Kd.R_drew)); exact HO_10.out⟩, ⟨by repeat (first | (with_reducible first | exact HB.out | apply below_alloc | apply pw_below_drewN | apply below_drew1) | exact HB.out)⟩⟩
      case rest =>
        clear HC9
        try clear c1
        try clear c2
        try clear p2
        try clear c3
        try clear c6
        try clear c7
        try clear c10
        try clear c10b0
        try clear c11
        try clear c11b0
        try clear p2
        obtain ⟨kq, x32_8, rfl, HA, HJ8, HO_0, HO_10, HB⟩ := hcut
        cases kq with
        | zero => exact absurd HA.out (by simp [ashlarlaw11_LinearNever.j1])
        | succ kj8 =>
          have H := HA.out
          clear HA
          simp only [ashlarlaw11_LinearNever.j1] at H
          by_cases c12 : x32_8 = true
          · subst c12
            have H1 : (if 0 ≤ x11_1 then (if x11_1 < (l1.length : Int) then (if x11_1 < (l2.length : Int) then ((num_Make.f (wrap64 (rd l1 x11_1)) (wrap64 (rd l2 x11_1))).bind fun bt107 => (if bt107.2.2 = true then (if x10_1.length < 8796093022208 then (ashlarlaw11_LinearNever.l0 kj8 t102 l1 l2 l3 t101 (x10_1 ++ [(⟨bt107.1, bt107.2.1⟩ : S29)]) (wrap64 (x11_1 + 1))) else (none)) else (ashlarlaw11_LinearNever.l0 kj8 t102 l1 l2 l3 t101 x10_1 (wrap64 (x11_1 + 1))))) else (none)) else (none)) else (none)) = some r := by rw [if_pos rfl] at H; exact H
            clear H
            have H := H1
            clear H1
            by_cases c13 : 0 ≤ x11_1
            · rw [if_pos c13] at H
              have c13b0 : decide (0 ≤ x11_1) = true := decide_eq_true c13
              clear c13
              by_cases c14 : x11_1 < (l1.length : Int)
              · rw [if_pos c14] at H
                have c14b0 : decide (x11_1 < (l1.length : Int)) = true := decide_eq_true c14
                clear c14
                by_cases c15 : x11_1 < (l2.length : Int)
                · rw [if_pos c15] at H
                  have c15b0 : decide (x11_1 < (l2.length : Int)) = true := decide_eq_true c15
                  clear c15
                  replace H := Option.bind_eq_some_iff.mp H
                  obtain ⟨⟨t107, t108, t109⟩, A160, H⟩ := H
                  replace H : (if t109 = true then (if x10_1.length < 8796093022208 then (ashlarlaw11_LinearNever.l0 kj8 t102 l1 l2 l3 t101 (x10_1 ++ [(⟨t107, t108⟩ : S29)]) (wrap64 (x11_1 + 1))) else (none)) else (ashlarlaw11_LinearNever.l0 kj8 t102 l1 l2 l3 t101 x10_1 (wrap64 (x11_1 + 1)))) = some r := H
                  have A16 := Aside0.mk A160
                  clear A160
                  by_cases c17 : t109 = true
                  · subst c17
                    have H1 : (if x10_1.length < 8796093022208 then (ashlarlaw11_LinearNever.l0 kj8 t102 l1 l2 l3 t101 (x10_1 ++ [(⟨t107, t108⟩ : S29)]) (wrap64 (x11_1 + 1))) else (none)) = some r := by rw [if_pos rfl] at H; exact H
                    clear H
                    have H := H1
                    clear H1
                    by_cases c18 : x10_1.length < 8796093022208
                    · rw [if_pos c18] at H
                      have LMc18 := Aside0.mk c18
                      clear c18
                      obtain ⟨y111, hy111⟩ : ∃ y_ : List (S29), y_ = (x10_1 ++ [(⟨t107, t108⟩ : S29)]) := ⟨_, rfl⟩
                      replace H : (ashlarlaw11_LinearNever.l0 kj8 t102 l1 l2 l3 t101 y111 (wrap64 (x11_1 + 1))) = some r := by first | (rw [hy111]; with_reducible exact H) | (have H2_ := (Option.bind_some _ _).symm.trans H; rw [hy111]; with_reducible exact H2_) | (have H2_ := (Option.bind_some _ _).symm.trans H; with_reducible exact H2_) | with_reducible exact H | (rw [hy111]; exact H) | exact H
                      have Ny111 := Aside0.mk hy111
                      clear hy111
                      have H' := Aside0.mk H
                      clear H
                      try go_wp2
                      have n0_ := Aside0.mk (Kd.S_drew HO_0.out)
                      have n1_ := Aside0.mk (Kd.R_drew HO_10.out)
                      have n2_ := Aside0.mk (below_drew1 HB.out)
                      clear HO_0
                      clear HO_10
                      clear HB
                      have HO_0 := n0_
                      have HO_10 := n1_
                      have HB := n2_
                      clear n0_ n1_ n2_
                      have p105 : 0 ≤ (x11_1 : Int) := of_decide_eq_true Z314
                      have q105 : x11_1 < (l1.length : Int) := of_decide_eq_true Z314
                      obtain ⟨ad105, e105, hx105_0⟩ := Kd.at_int HR1.out x11_1 p105 q105
                      have hw105_0 := hx105_0
                      cases e105
                      replace hx105_0 := (HB.out.cell (World.block_lt_of_cell? w _ hx105_0)).trans hx105_0
                      replace p105 := eq_true p105
                      replace q105 := eq_true q105
                      have p106 : 0 ≤ (x11_1 : Int) := of_decide_eq_true Z314
                      have q106 : x11_1 < (l2.length : Int) := of_decide_eq_true Z314
                      obtain ⟨ad106, e106, hx106_0⟩ := Kd.at_int HR2.out x11_1 p106 q106
                      have hw106_0 := hx106_0
                      cases e106
                      replace hx106_0 := (HB.out.cell (World.block_lt_of_cell? w _ hx106_0)).trans hx106_0
                      replace p106 := eq_true p106
                      replace q106 := eq_true q106
                      refine start_ (n := 17) (S := fun w' => w'.cell? (ad105.add (x11_1).toNat) = some (.int .i8 (rd l1 x11_1)) ∧ w'.cell? (ad106.add (x11_1).toNat) = some (.int .u8 (rd l2 x11_1))) (ds := []) #[false, false, false, false, false, false, false, false, false, false, false, false, false, false, false, false, false] Z310 rfl rfl ⟨((HB.out.cell (World.block_lt_of_cell? w _ hw105_0)).trans hw105_0), ((HB.out.cell (World.block_lt_of_cell? w _ hw106_0)).trans hw106_0)⟩ (fun hHeld => ?_); refine with_tabW ashlarlaw11_LinearNever.tab7 ashlarlaw11_LinearNever.bits7 (fun HT_ HW_ => ?_)
                      generalize wc.drew = w19 at HO_0 HO_10 HB hx105_0 hx106_0 hHeld ⊢
                      refine pure_ (i := 0) (N := some 36) (v := ?_) (a' := ?_) #[true, false, false, false, false, false, false, false, false, false, false, false, false, false, false, false, false] rfl rfl (any_of HT_.out Z310) (fun _ _ _ h => h) (Or.inl ⟨by rfl, ?_⟩) ?_ ?_
                      rotate_left
                      · intro w'
                        go_simp
                        with_reducible rfl
                      rotate_left
                      · simp only [Act.put, List.setIfInBounds_toArray, List.set_cons_zero, List.set_cons_succ, i64_w, i32_w]
                        rfl
                      refine pure_ (i := 1) (N := some 37) (v := ?_) (a' := ?_) #[true, true, false, false, false, false, false, false, false, false, false, false, false, false, false, false, false] rfl rfl (any_of HT_.out Z310) (fun _ _ _ h => h) (Or.inl ⟨by rfl, ?_⟩) ?_ ?_
                      rotate_left
                      · intro w'
                        go_simp
                        with_reducible rfl
                      rotate_left
                      · simp only [Act.put, List.setIfInBounds_toArray, List.set_cons_zero, List.set_cons_succ, i64_w, i32_w]
                        rfl
                      refine pure_ (i := 2) (N := some 38) (v := ?_) (a' := ?_) #[true, true, true, false, false, false, false, false, false, false, false, false, false, false, false, false, false] rfl rfl (any_of HT_.out Z310) (fun _ _ _ h => h) (Or.inl ⟨by rfl, ?_⟩) ?_ ?_
                      rotate_left
                      · intro w'
                        go_simp
                        with_reducible rfl
                      rotate_left
                      · simp only [Act.put, List.setIfInBounds_toArray, List.set_cons_zero, List.set_cons_succ, i64_w, i32_w]
                        rfl
                      refine pure_ (i := 5) (N := some 41) (v := ?_) (a' := ?_) #[true, true, true, false, false, true, false, false, false, false, false, false, false, false, false, false, false] rfl rfl (any_of HT_.out Z310) (fun _ _ _ h => h) (Or.inl ⟨by rfl, ?_⟩) ?_ ?_
                      rotate_left
                      · intro w'
                        go_simp
                        with_reducible rfl
                      rotate_left
                      · simp only [Act.put, List.setIfInBounds_toArray, List.set_cons_zero, List.set_cons_succ, i64_w, i32_w]
                        rfl
                      refine pure_ (i := 6) (N := some 42) (v := ?_) (a' := ?_) #[true, true, true, false, false, true, true, false, false, false, false, false, false, false, false, false, false] rfl rfl (any_of HT_.out Z310) (fun _ _ _ h => h) (Or.inl ⟨by rfl, ?_⟩) ?_ ?_
                      rotate_left
                      · intro w'
                        go_simp
                        with_reducible rfl
                      rotate_left
                      · simp only [Act.put, List.setIfInBounds_toArray, List.set_cons_zero, List.set_cons_succ, i64_w, i32_w]
                        rfl
                      refine pure_ (i := 7) (N := some 43) (v := ?_) (a' := ?_) #[true, true, true, false, false, true, true, true, false, false, false, false, false, false, false, false, false] rfl rfl (any_of HT_.out Z310) (fun _ _ _ h => h) (Or.inl ⟨by rfl, ?_⟩) ?_ ?_
                      rotate_left
                      · intro w'
                        go_simp
                        with_reducible rfl
                      rotate_left
                      · simp only [Act.put, List.setIfInBounds_toArray, List.set_cons_zero, List.set_cons_succ, i64_w, i32_w]
                        rfl
                      refine take_ (i := 3) (N := some 39) (v := ?_) (a' := ?_) #[true, true, true, true, false, true, true, true, false, false, false, false, false, false, false, false, false] rfl rfl (take_ofW HT_.out HW_.out Z310) (fun _ _ _ h => h) (Or.inl ⟨by rfl, ?_⟩) hHeld ?_ ?_
                      rotate_left
                      · rintro w' ⟨s0, s1⟩
                        go_simp
                        with_reducible rfl
                      rotate_left
                      · simp only [Act.put, List.setIfInBounds_toArray, List.set_cons_zero, List.set_cons_succ, i64_w, i32_w]
                        rfl
                      refine pure_ (i := 4) (N := some 40) (v := ?_) (a' := ?_) #[true, true, true, true, true, true, true, true, false, false, false, false, false, false, false, false, false] rfl rfl (any_of HT_.out Z310) (fun _ _ _ h => h) (Or.inl ⟨by rfl, ?_⟩) ?_ ?_
                      rotate_left
                      · intro w'
                        go_simp
                        with_reducible rfl
                      rotate_left
                      · simp only [Act.put, List.setIfInBounds_toArray, List.set_cons_zero, List.set_cons_succ, i64_w, i32_w]
                        rfl
                      refine take_ (i := 8) (N := some 44) (v := ?_) (a' := ?_) #[true, true, true, true, true, true, true, true, true, false, false, false, false, false, false, false, false] rfl rfl (take_ofW HT_.out HW_.out Z310) (fun _ _ _ h => h) (Or.inl ⟨by rfl, ?_⟩) hHeld ?_ ?_
                      rotate_left
                      · rintro w' ⟨s0, s1⟩
                        go_simp
                        with_reducible rfl
                      rotate_left
                      · simp only [Act.put, List.setIfInBounds_toArray, List.set_cons_zero, List.set_cons_succ, i64_w, i32_w]
                        rfl
                      refine pure_ (i := 9) (N := some 45) (v := ?_) (a' := ?_) #[true, true, true, true, true, true, true, true, true, true, false, false, false, false, false, false, false] rfl rfl (any_of HT_.out Z310) (fun _ _ _ h => h) (Or.inl ⟨by rfl, ?_⟩) ?_ ?_
                      rotate_left
                      · intro w'
                        go_simp
                        with_reducible rfl
                      rotate_left
                      · simp only [Act.put, List.setIfInBounds_toArray, List.set_cons_zero, List.set_cons_succ, i64_w, i32_w]
                        rfl
                      refine join_ (σ := Nat) 2 #[true, true, true, true, true, true, true, true, true, true, true, true, true, true, true, false, false] (fun s_ => [(46, .tuple #[.agg #[.int .i64 t107, .int .i64 t108], .bool true]), (12, .pointer (some ⟨s_, 0, none⟩)), (35, .tuple #[.agg #[.int .i64 t107, .int .i64 t108], .bool true]), (47, .agg #[.int .i64 t107, .int .i64 t108]), (48, .bool true)]) (fun s_ w' => (w'.cell? (ad105.add (x11_1).toNat) = some (.int .i8 (rd l1 x11_1)) ∧ w'.cell? (ad106.add (x11_1).toNat) = some (.int .u8 (rd l2 x11_1))) ∧ (Kd.S k38 38 w' w.heap.size (fun _ => True) v103 t102) ∧ (Kd.R k29 29 w' w.heap.size (fun k_ => k_ ≠ s_) u10 x10_1) ∧ (w'.heap[s_]? = some (.cells #[.int .i64 0, .int .i64 0] 29 (0, 0))) ∧ (w.heap.size ≤ s_) ∧ (w.heap.size ≤ s_) ∧ (Below w.heap.size w w')) ?_ ?_
                      rotate_left
                      · intro hCont
                        refine two_ (i := 10) (j := 14) (Ni := some 46) (Nj := some 12) #[true, true, true, true, true, true, true, true, true, true, true, false, false, false, false, false, false] #[true, true, true, true, true, true, true, true, true, true, false, false, false, false, true, false, false] rfl rfl rfl rfl (two_of HT_.out Z310) (by decide) (by decide) (fun K hK => ?_) (fun K hK => ?_)
                        · skip
                          refine goes_ Try.func8 Z310 rfl #[.int .i64 (wrap64 (rd l1 x11_1)), .int .i64 (wrap64 (rd l2 x11_1))] (by rfl) rfl rfl Z311 ?_
                          with_reducible refine (num_Make.calls (wrap64 (rd l1 x11_1)) (wrap64 (rd l2 x11_1)) t107 t108 true _ A16.out).mono ?_
                          rintro e w20 ⟨rfl, hb⟩
                          refine ⟨_, rfl, ?_⟩
                          have n0_ := Aside0.mk (Kd.S_below Z315 hb)
                          have n1_ := Aside0.mk (Kd.R_below Z316 hb)
                          have n2_ := Aside0.mk (below_step Z312 hb)
                          clear HO_0
                          clear HO_10
                          clear HB
                          have HO_0 := n0_
                          have HO_10 := n1_
                          have HB := n2_
                          clear n0_ n1_ n2_
                          (try clear hb)
                          (try clear hb2)
                          (try clear hk)
                          (try clear hi)
                          refine hK.out _ _ ⟨((HB.out.cell (World.block_lt_of_cell? w _ hw105_0)).trans hw105_0), ((HB.out.cell (World.block_lt_of_cell? w _ hw106_0)).trans hw106_0)⟩ (fun hHeld => ?_)
                          clear hK K
                          refine norm_ (a' := ?_) ?_ ?_
                          rotate_left
                          · show Act.put _ (some 46) _ = _
                            simp only [Act.put, List.setIfInBounds_toArray, List.set_cons_zero, List.set_cons_succ, i64_w, i32_w]
                            rfl
                          refine pure_ (i := 11) (N := some 35) (v := ?_) (a' := ?_) #[true, true, true, true, true, true, true, true, true, true, true, true, false, false, false, false, false] rfl rfl (any_of HT_.out Z310) (fun _ _ _ h => h) (Or.inl ⟨by rfl, ?_⟩) ?_ ?_
                          rotate_left
                          · intro w'
                            go_simp
                            with_reducible rfl
                          rotate_left
                          · simp only [Act.put, List.setIfInBounds_toArray, List.set_cons_zero, List.set_cons_succ, i64_w, i32_w]
                            rfl
                          refine pure_ (i := 12) (N := some 47) (v := ?_) (a' := ?_) #[true, true, true, true, true, true, true, true, true, true, true, true, true, false, false, false, false] rfl rfl (any_of HT_.out Z310) (fun _ _ _ h => h) (Or.inl ⟨by rfl, ?_⟩) ?_ ?_
                          rotate_left
                          · intro w'
                            go_simp
                            with_reducible rfl
                          rotate_left
                          · simp only [Act.put, List.setIfInBounds_toArray, List.set_cons_zero, List.set_cons_succ, i64_w, i32_w]
                            rfl
                          refine pure_ (i := 13) (N := some 48) (v := ?_) (a' := ?_) #[true, true, true, true, true, true, true, true, true, true, true, true, true, true, false, false, false] rfl rfl (any_of HT_.out Z310) (fun _ _ _ h => h) (Or.inl ⟨by rfl, ?_⟩) ?_ ?_
                          rotate_left
                          · intro w'
                            go_simp
                            with_reducible rfl
                          rotate_left
                          · simp only [Act.put, List.setIfInBounds_toArray, List.set_cons_zero, List.set_cons_succ, i64_w, i32_w]
                            rfl
                          refine one_ (i := 14) (N := some 12) #[true, true, true, true, true, true, true, true, true, true, true, true, true, true, true, false, false] rfl rfl (one_of HT_.out Z310) (by decide) (fun K hK => ?_)
                          refine box_step ?hg (N := 12) ?hd (cs := #[.int .i64 0, .int .i64 0]) (t := 29) ?hr ?_; (case hd => rfl); (case hg => rfl); (case hr => first | (go_simp; done) | (go_simp; rfl))
                          intro gb110 hg w21 hbox hb
                          have n0_ := Aside0.mk (Kd.S_below Z315 hb)
                          have n1_ := Aside0.mk (Kd.R_below (Kd.R_elderB Z316 gb110 (Nat.le_of_eq hg.symm)) hb)
                          have n2_ := Aside0.mk (below_step Z312 hb)
                          have n3_ := Aside0.mk (hbox)
                          have n4_ := Aside0.mk ((by rw [hg]; exact (below_size Z312) : w.heap.size ≤ gb110))
                          have n5_ := Aside0.mk ((by rw [hg]; exact (below_size Z312) : w.heap.size ≤ gb110))
                          clear HO_0
                          clear HO_10
                          clear HB
                          have HO_0 := n0_
                          have HO_10 := n1_
                          have HB := n2_
                          have BK110 := n3_
                          have GW110 := n4_
                          have GE110 := n5_
                          clear n0_ n1_ n2_ n3_ n4_ n5_
                          clear hb hbox hg
                          refine hK.out _ _ ⟨((HB.out.cell (World.block_lt_of_cell? w _ hw105_0)).trans hw105_0), ((HB.out.cell (World.block_lt_of_cell? w _ hw106_0)).trans hw106_0)⟩ (fun hHeld => ?_)
                          clear hK K
                          refine norm_ (a' := ?_) ?_ ?_
                          rotate_left
                          · show Act.put _ (some 12) _ = _
                            simp only [Act.put, List.setIfInBounds_toArray, List.set_cons_zero, List.set_cons_succ, i64_w, i32_w]
                            rfl
                          exact norm_ Z317 (hCont (gb110) _ ⟨hHeld, Z315, Z318, Z319, GW110.out, GE110.out, Z31a⟩)
                        · skip
                          refine box_step ?hg (N := 12) ?hd (cs := #[.int .i64 0, .int .i64 0]) (t := 29) ?hr ?_; (case hd => rfl); (case hg => rfl); (case hr => first | (go_simp; done) | (go_simp; rfl))
                          intro gb110 hg w20 hbox hb
                          have n0_ := Aside0.mk (Kd.S_below Z315 hb)
                          have n1_ := Aside0.mk (Kd.R_below (Kd.R_elderB Z316 gb110 (Nat.le_of_eq hg.symm)) hb)
                          have n2_ := Aside0.mk (below_step Z312 hb)
                          have n3_ := Aside0.mk (hbox)
                          have n4_ := Aside0.mk ((by rw [hg]; exact (below_size Z312) : w.heap.size ≤ gb110))
                          have n5_ := Aside0.mk ((by rw [hg]; exact (below_size Z312) : w.heap.size ≤ gb110))
                          clear HO_0
                          clear HO_10
                          clear HB
                          have HO_0 := n0_
                          have HO_10 := n1_
                          have HB := n2_
                          have BK110 := n3_
                          have GW110 := n4_
                          have GE110 := n5_
                          clear n0_ n1_ n2_ n3_ n4_ n5_
                          clear hb hbox hg
                          refine hK.out _ _ ⟨((HB.out.cell (World.block_lt_of_cell? w _ hw105_0)).trans hw105_0), ((HB.out.cell (World.block_lt_of_cell? w _ hw106_0)).trans hw106_0)⟩ (fun hHeld => ?_)
                          clear hK K
                          refine norm_ (a' := ?_) ?_ ?_
                          rotate_left
                          · show Act.put _ (some 12) _ = _
                            simp only [Act.put, List.setIfInBounds_toArray, List.set_cons_zero, List.set_cons_succ, i64_w, i32_w]
                            rfl
                          refine one_ (i := 10) (N := some 46) #[true, true, true, true, true, true, true, true, true, true, true, false, false, false, true, false, false] rfl rfl (one_of HT_.out Z310) (by decide) (fun K hK => ?_)
                          refine goes_ Try.func8 Z310 rfl #[.int .i64 (wrap64 (rd l1 x11_1)), .int .i64 (wrap64 (rd l2 x11_1))] (by rfl) rfl rfl Z311 ?_
                          with_reducible refine (num_Make.calls (wrap64 (rd l1 x11_1)) (wrap64 (rd l2 x11_1)) t107 t108 true _ A16.out).mono ?_
                          rintro e w21 ⟨rfl, hb⟩
                          refine ⟨_, rfl, ?_⟩
                          have n0_ := Aside0.mk (Kd.S_below Z315 hb)
                          have n1_ := Aside0.mk (Kd.R_below Z316 hb)
                          have n2_ := Aside0.mk (blk_below (g := gb110) (o := .cells #[.int .i64 0, .int .i64 0] 29 (0, 0)) Z319 hb)
                          have n3_ := Aside0.mk (below_step Z31a hb)
                          clear HO_0
                          clear HO_10
                          clear BK110
                          clear HB
                          have HO_0 := n0_
                          have HO_10 := n1_
                          have BK110 := n2_
                          have HB := n3_
                          clear n0_ n1_ n2_ n3_
                          (try clear hb)
                          (try clear hb2)
                          (try clear hk)
                          (try clear hi)
                          refine hK.out _ _ ⟨((HB.out.cell (World.block_lt_of_cell? w _ hw105_0)).trans hw105_0), ((HB.out.cell (World.block_lt_of_cell? w _ hw106_0)).trans hw106_0)⟩ (fun hHeld => ?_)
                          clear hK K
                          refine norm_ (a' := ?_) ?_ ?_
                          rotate_left
                          · show Act.put _ (some 46) _ = _
                            simp only [Act.put, List.setIfInBounds_toArray, List.set_cons_zero, List.set_cons_succ, i64_w, i32_w]
                            rfl
                          refine pure_ (i := 11) (N := some 35) (v := ?_) (a' := ?_) #[true, true, true, true, true, true, true, true, true, true, true, true, false, false, true, false, false] rfl rfl (any_of HT_.out Z310) (fun _ _ _ h => h) (Or.inl ⟨by rfl, ?_⟩) ?_ ?_
                          rotate_left
                          · intro w'
                            go_simp
                            with_reducible rfl
                          rotate_left
                          · simp only [Act.put, List.setIfInBounds_toArray, List.set_cons_zero, List.set_cons_succ, i64_w, i32_w]
                            rfl
                          refine pure_ (i := 12) (N := some 47) (v := ?_) (a' := ?_) #[true, true, true, true, true, true, true, true, true, true, true, true, true, false, true, false, false] rfl rfl (any_of HT_.out Z310) (fun _ _ _ h => h) (Or.inl ⟨by rfl, ?_⟩) ?_ ?_
                          rotate_left
                          · intro w'
                            go_simp
                            with_reducible rfl
                          rotate_left
                          · simp only [Act.put, List.setIfInBounds_toArray, List.set_cons_zero, List.set_cons_succ, i64_w, i32_w]
                            rfl
                          refine pure_ (i := 13) (N := some 48) (v := ?_) (a' := ?_) #[true, true, true, true, true, true, true, true, true, true, true, true, true, true, true, false, false] rfl rfl (any_of HT_.out Z310) (fun _ _ _ h => h) (Or.inl ⟨by rfl, ?_⟩) ?_ ?_
                          rotate_left
                          · intro w'
                            go_simp
                            with_reducible rfl
                          rotate_left
                          · simp only [Act.put, List.setIfInBounds_toArray, List.set_cons_zero, List.set_cons_succ, i64_w, i32_w]
                            rfl
                          exact norm_ Z317 (hCont (gb110) _ ⟨hHeld, Z315, Z318, Z319, GW110.out, GE110.out, Z31a⟩)
                      rintro gb110 w22 ⟨hS_, h0_, h1_, h2_, h3_, h4_, h5_⟩
                      have n0_ : Aside0 (Kd.S k38 38 w22 w.heap.size (fun _ => True) v103 t102) := ⟨h0_⟩
                      have n1_ : Aside0 (Kd.R k29 29 w22 w.heap.size (fun k_ => k_ ≠ gb110) u10 x10_1) := ⟨h1_⟩
                      have n2_ : Aside0 (w22.heap[gb110]? = some (.cells #[.int .i64 0, .int .i64 0] 29 (0, 0))) := ⟨h2_⟩
                      have n3_ : Aside0 (w.heap.size ≤ gb110) := ⟨h3_⟩
                      have n4_ : Aside0 (w.heap.size ≤ gb110) := ⟨h4_⟩
                      have n5_ : Aside0 (Below w.heap.size w w22) := ⟨h5_⟩
                      clear HO_0
                      clear HO_10
                      clear HB
                      clear h0_ h1_ h2_ h3_ h4_ h5_
                      have HO_0 := n0_
                      have HO_10 := n1_
                      have BK110 := n2_
                      have GW110 := n3_
                      have GE110 := n4_
                      have HB := n5_
                      clear n0_ n1_ n2_ n3_ n4_ n5_
                      have hHeld : w22.cell? (ad105.add (x11_1).toNat) = some (.int .i8 (rd l1 x11_1)) ∧ w22.cell? (ad106.add (x11_1).toNat) = some (.int .u8 (rd l2 x11_1)) := hS_
                      refine norm_ (a' := ?_) ?_ ?_
                      rotate_left
                      · simp only [putAll, Act.put, List.setIfInBounds_toArray, List.set_cons_zero, List.set_cons_succ]
                        rfl
                      refine one_ (i := 15) (N := none) #[true, true, true, true, true, true, true, true, true, true, true, true, true, true, true, true, false] rfl rfl (one_of HT_.out Z310) (by decide) (fun K hK => ?_)
                      have hs23 : w22.cell? ⟨gb110, 0, none⟩ = some (.int .i64 0) := (blk_cell BK110.out 0).trans rfl
                      have hfs23 := blk_frozen BK110.out 0
                      have hs24 : w22.cell? ⟨gb110, 1, none⟩ = some (.int .i64 0) := (blk_cell BK110.out 1).trans rfl
                      have hfs24 := blk_frozen BK110.out 1
                      refine skip_ (w1 := ?_) (by rfl) rfl ?_ ?_
                      rotate_left
                      · go_simp
                        rfl
                      refine hK.out _ _ ⟨((cell_far (p := ⟨gb110, _, none⟩) Z31b _).trans (((cell_far (p := ⟨gb110, _, none⟩) Z31b _).trans (hHeld.1)))), ((cell_far (p := ⟨gb110, _, none⟩) Z31c _).trans (((cell_far (p := ⟨gb110, _, none⟩) Z31c _).trans (hHeld.2))))⟩ (fun hHeld => ?_)
                      clear hK K
                      refine pure_ (i := 16) (N := some 13) (v := ?_) (a' := ?_) #[true, true, true, true, true, true, true, true, true, true, true, true, true, true, true, true, true] rfl rfl (any_of HT_.out Z310) (fun _ _ _ h => h) (Or.inl ⟨by rfl, ?_⟩) ?_ ?_
                      rotate_left
                      · intro w'
                        go_simp
                        with_reducible rfl
                      rotate_left
                      · simp only [Act.put, List.setIfInBounds_toArray, List.set_cons_zero, List.set_cons_succ, i64_w, i32_w]
                        rfl
                      refine done_ (done_of HT_.out Z310) ?_
                      have hcz25_0 : w22.cell? ⟨gb110, 0, none⟩ = some (.int .i64 0) := (blk_cell BK110.out 0).trans rfl
                      have hcz25_1 : w22.cell? ⟨gb110, 1, none⟩ = some (.int .i64 0) := (blk_cell BK110.out 1).trans rfl
                      have hfz25_0 := blk_frozen BK110.out 0
                      have hfz25_1 := blk_frozen BK110.out 1
                      try go_wp2_with (first | ((with_reducible refine gate_builtin (b := .append) (xs := #[.tmp 50, .tmp 52]) rfl ?_); (try (refine gate_guard (by rfl) ?_; dsimp only)); at_builtin; refine Kd.R_append k29 (w0 := w) w.heap.size rfl (.tmp 50) (.tmp 52) 27 29 (.agg #[(.int .i64 0), (.int .i64 0)]) 16 rfl Try.underlying27 info29 rfl (by decide) (by omega) u10 x10_1 (⟨t107, t108⟩ : S29) [.int .i64 t107, .int .i64 t108] (fun k_ => k_ ≠ gb110) (fun _ => False) rfl (by first | (go_simp; done) | (go_simp; rfl)) ?aP (fun _ hk => hk.elim) ?aF ?aO ?aB ?aS ?aL ?_; (case aP => exact k29_mkM _ _ _ (⟨t107, t108⟩ : S29)); (case aB => exact Z31a); (case aF => exact (fun k_ hk => Kd.freshB (g := gb110) (o := .cells #[.int .i64 t107, .int .i64 t108] 29 (0, 0)) Z31d k_ hk)); (case aO => exact (by (with_reducible repeat (first | apply Kd.R_alloc | apply Kd.R_drewN | apply Kd.R_drew)); exact Kd.R_mono (Kd.R_far (p := ⟨gb110, 1, none⟩) (Kd.R_far (p := ⟨gb110, 0, none⟩) (Kd.R_mono HO_10.out (fun k_ hk => (⟨hk, hk⟩ : _ ∧ k_ ≠ gb110))) (fun _ hk => hk.2) (.int .i64 t107)) (fun _ hk => hk.2) (.int .i64 t108)) (fun _ hk => hk.1))); (case aS => exact (below_size Z31a)); (case aL => have := LMc18.out; omega); intro v112 w26 ho hb hg hat; rw [← Ny111.out] at ho; have n0_ := Aside0.mk (Kd.S_over' (by (with_reducible repeat (first | apply Kd.S_alloc | apply Kd.S_drewN | apply Kd.S_drew)); exact (Kd.S_mono (Kd.S_far (p := ⟨gb110, 1, none⟩) (Kd.S_far (p := ⟨gb110, 0, none⟩) (Kd.S_types HO_0.out BK110.out (by decide)) (fun _ hk => hk.2) (.int .i64 t107)) (fun _ hk => hk.2) (.int .i64 t108)) (fun _ h_ => h_.1))) (Kd.R_typed (by (with_reducible repeat (first | apply Kd.R_alloc | apply Kd.R_drewN | apply Kd.R_drew)); exact (Kd.R_mono (Kd.R_far (p := ⟨gb110, 1, none⟩) (Kd.R_far (p := ⟨gb110, 0, none⟩) (Kd.R_mono HO_10.out (fun k_ hk => (⟨hk, hk⟩ : _ ∧ k_ ≠ gb110))) (fun _ hk => hk.2) (.int .i64 t107)) (fun _ hk => hk.2) (.int .i64 t108)) (fun _ h_ => h_.1)))) (by decide) hg); have n1_ := Aside0.mk (blk_grown (g := gb110) (o := .cells #[.int .i64 t107, .int .i64 t108] 29 (0, 0)) Z31d hg (Kd.R_away HO_10.out (fun _ hk => hk))); have n2_ := Aside0.mk (hb); have n3_ := Aside0.mk (ho); clear HO_0; clear BK110; clear HB; clear HO_10; have HO_0 := n0_; have BK110 := n1_; have HB := n2_; have HO113 := n3_; clear n0_ n1_ n2_ n3_; clear ho hb hg hat))
                      go_roundg kj8
                      case measure => have := HK1.out; have := HJ8.out; omega
                      case rel => exact ⟨(y111), (wrap64 (x11_1 + 1)), Z313, H', ⟨by have := HK1.out; have := HJ8.out; omega⟩, ⟨by (with_reducible repeat (first | apply Kd.S_alloc | apply Kd.S_drewN | apply Kd.S_drew)); exact HO_0.out⟩, ⟨by (with_reducible repeat (first | apply Kd.R_alloc | apply Kd.R_drewN | apply Kd.R_drew)); exact Kd.R_mono HO113.out (fun _ hk => trivial)⟩, ⟨by repeat (first | (with_reducible first | exact HB.out | apply below_alloc | apply pw_below_drewN | apply below_drew1 | refine below_set ?_ GE110.out) | exact HB.out)⟩⟩
                    · rw [if_neg c18] at H
                      exact absurd H (by simp)
                  · replace c17 := Bool.eq_false_iff.mpr c17
                    subst c17
                    have H1 : (ashlarlaw11_LinearNever.l0 kj8 t102 l1 l2 l3 t101 x10_1 (wrap64 (x11_1 + 1))) = some r := by rw [if_neg (show ¬ (false = true) by decide)] at H; exact H
                    clear H
                    have H := H1
                    clear H1
                    have H' := Aside0.mk H
                    clear H
                    try go_wp2
                    have n0_ := Aside0.mk (Kd.S_drew HO_0.out)
                    have n1_ := Aside0.mk (Kd.R_drew HO_10.out)
                    have n2_ := Aside0.mk (below_drew1 HB.out)
                    clear HO_0
                    clear HO_10
                    clear HB
                    have HO_0 := n0_
                    have HO_10 := n1_
                    have HB := n2_
                    clear n0_ n1_ n2_
                    have p105 : 0 ≤ (x11_1 : Int) := of_decide_eq_true Z314
                    have q105 : x11_1 < (l1.length : Int) := of_decide_eq_true Z314
                    obtain ⟨ad105, e105, hx105_0⟩ := Kd.at_int HR1.out x11_1 p105 q105
                    have hw105_0 := hx105_0
                    cases e105
                    replace hx105_0 := (HB.out.cell (World.block_lt_of_cell? w _ hx105_0)).trans hx105_0
                    replace p105 := eq_true p105
                    replace q105 := eq_true q105
                    have p106 : 0 ≤ (x11_1 : Int) := of_decide_eq_true Z314
                    have q106 : x11_1 < (l2.length : Int) := of_decide_eq_true Z314
                    obtain ⟨ad106, e106, hx106_0⟩ := Kd.at_int HR2.out x11_1 p106 q106
                    have hw106_0 := hx106_0
                    cases e106
                    replace hx106_0 := (HB.out.cell (World.block_lt_of_cell? w _ hx106_0)).trans hx106_0
                    replace p106 := eq_true p106
                    replace q106 := eq_true q106
                    refine start_ (n := 17) (S := fun w' => w'.cell? (ad105.add (x11_1).toNat) = some (.int .i8 (rd l1 x11_1)) ∧ w'.cell? (ad106.add (x11_1).toNat) = some (.int .u8 (rd l2 x11_1))) (ds := []) #[false, false, false, false, false, false, false, false, false, false, false, false, false, false, false, false, false] Z310 rfl rfl ⟨((HB.out.cell (World.block_lt_of_cell? w _ hw105_0)).trans hw105_0), ((HB.out.cell (World.block_lt_of_cell? w _ hw106_0)).trans hw106_0)⟩ (fun hHeld => ?_); refine with_tabW ashlarlaw11_LinearNever.tab7 ashlarlaw11_LinearNever.bits7 (fun HT_ HW_ => ?_)
                    generalize wc.drew = w27 at HO_0 HO_10 HB hx105_0 hx106_0 hHeld ⊢
                    refine pure_ (i := 0) (N := some 36) (v := ?_) (a' := ?_) #[true, false, false, false, false, false, false, false, false, false, false, false, false, false, false, false, false] rfl rfl (any_of HT_.out Z310) (fun _ _ _ h => h) (Or.inl ⟨by rfl, ?_⟩) ?_ ?_
                    rotate_left
                    · intro w'
                      go_simp
                      with_reducible rfl
                    rotate_left
                    · simp only [Act.put, List.setIfInBounds_toArray, List.set_cons_zero, List.set_cons_succ, i64_w, i32_w]
                      rfl
                    refine pure_ (i := 1) (N := some 37) (v := ?_) (a' := ?_) #[true, true, false, false, false, false, false, false, false, false, false, false, false, false, false, false, false] rfl rfl (any_of HT_.out Z310) (fun _ _ _ h => h) (Or.inl ⟨by rfl, ?_⟩) ?_ ?_
                    rotate_left
                    · intro w'
                      go_simp
                      with_reducible rfl
                    rotate_left
                    · simp only [Act.put, List.setIfInBounds_toArray, List.set_cons_zero, List.set_cons_succ, i64_w, i32_w]
                      rfl
                    refine pure_ (i := 2) (N := some 38) (v := ?_) (a' := ?_) #[true, true, true, false, false, false, false, false, false, false, false, false, false, false, false, false, false] rfl rfl (any_of HT_.out Z310) (fun _ _ _ h => h) (Or.inl ⟨by rfl, ?_⟩) ?_ ?_
                    rotate_left
                    · intro w'
                      go_simp
                      with_reducible rfl
                    rotate_left
                    · simp only [Act.put, List.setIfInBounds_toArray, List.set_cons_zero, List.set_cons_succ, i64_w, i32_w]
                      rfl
                    refine pure_ (i := 5) (N := some 41) (v := ?_) (a' := ?_) #[true, true, true, false, false, true, false, false, false, false, false, false, false, false, false, false, false] rfl rfl (any_of HT_.out Z310) (fun _ _ _ h => h) (Or.inl ⟨by rfl, ?_⟩) ?_ ?_
                    rotate_left
                    · intro w'
                      go_simp
                      with_reducible rfl
                    rotate_left
                    · simp only [Act.put, List.setIfInBounds_toArray, List.set_cons_zero, List.set_cons_succ, i64_w, i32_w]
                      rfl
                    refine pure_ (i := 6) (N := some 42) (v := ?_) (a' := ?_) #[true, true, true, false, false, true, true, false, false, false, false, false, false, false, false, false, false] rfl rfl (any_of HT_.out Z310) (fun _ _ _ h => h) (Or.inl ⟨by rfl, ?_⟩) ?_ ?_
                    rotate_left
                    · intro w'
                      go_simp
                      with_reducible rfl
                    rotate_left
                    · simp only [Act.put, List.setIfInBounds_toArray, List.set_cons_zero, List.set_cons_succ, i64_w, i32_w]
                      rfl
                    refine pure_ (i := 7) (N := some 43) (v := ?_) (a' := ?_) #[true, true, true, false, false, true, true, true, false, false, false, false, false, false, false, false, false] rfl rfl (any_of HT_.out Z310) (fun _ _ _ h => h) (Or.inl ⟨by rfl, ?_⟩) ?_ ?_
                    rotate_left
                    · intro w'
                      go_simp
                      with_reducible rfl
                    rotate_left
                    · simp only [Act.put, List.setIfInBounds_toArray, List.set_cons_zero, List.set_cons_succ, i64_w, i32_w]
                      rfl
                    refine take_ (i := 3) (N := some 39) (v := ?_) (a' := ?_) #[true, true, true, true, false, true, true, true, false, false, false, false, false, false, false, false, false] rfl rfl (take_ofW HT_.out HW_.out Z310) (fun _ _ _ h => h) (Or.inl ⟨by rfl, ?_⟩) hHeld ?_ ?_
                    rotate_left
                    · rintro w' ⟨s0, s1⟩
                      go_simp
                      with_reducible rfl
                    rotate_left
                    · simp only [Act.put, List.setIfInBounds_toArray, List.set_cons_zero, List.set_cons_succ, i64_w, i32_w]
                      rfl
                    refine pure_ (i := 4) (N := some 40) (v := ?_) (a' := ?_) #[true, true, true, true, true, true, true, true, false, false, false, false, false, false, false, false, false] rfl rfl (any_of HT_.out Z310) (fun _ _ _ h => h) (Or.inl ⟨by rfl, ?_⟩) ?_ ?_
                    rotate_left
                    · intro w'
                      go_simp
                      with_reducible rfl
                    rotate_left
                    · simp only [Act.put, List.setIfInBounds_toArray, List.set_cons_zero, List.set_cons_succ, i64_w, i32_w]
                      rfl
                    refine take_ (i := 8) (N := some 44) (v := ?_) (a' := ?_) #[true, true, true, true, true, true, true, true, true, false, false, false, false, false, false, false, false] rfl rfl (take_ofW HT_.out HW_.out Z310) (fun _ _ _ h => h) (Or.inl ⟨by rfl, ?_⟩) hHeld ?_ ?_
                    rotate_left
                    · rintro w' ⟨s0, s1⟩
                      go_simp
                      with_reducible rfl
                    rotate_left
                    · simp only [Act.put, List.setIfInBounds_toArray, List.set_cons_zero, List.set_cons_succ, i64_w, i32_w]
                      rfl
                    refine pure_ (i := 9) (N := some 45) (v := ?_) (a' := ?_) #[true, true, true, true, true, true, true, true, true, true, false, false, false, false, false, false, false] rfl rfl (any_of HT_.out Z310) (fun _ _ _ h => h) (Or.inl ⟨by rfl, ?_⟩) ?_ ?_
                    rotate_left
                    · intro w'
                      go_simp
                      with_reducible rfl
                    rotate_left
                    · simp only [Act.put, List.setIfInBounds_toArray, List.set_cons_zero, List.set_cons_succ, i64_w, i32_w]
                      rfl
                    refine join_ (σ := Nat) 2 #[true, true, true, true, true, true, true, true, true, true, true, true, true, true, true, false, false] (fun s_ => [(46, .tuple #[.agg #[.int .i64 t107, .int .i64 t108], .bool false]), (12, .pointer (some ⟨s_, 0, none⟩)), (35, .tuple #[.agg #[.int .i64 t107, .int .i64 t108], .bool false]), (47, .agg #[.int .i64 t107, .int .i64 t108]), (48, .bool false)]) (fun s_ w' => (w'.cell? (ad105.add (x11_1).toNat) = some (.int .i8 (rd l1 x11_1)) ∧ w'.cell? (ad106.add (x11_1).toNat) = some (.int .u8 (rd l2 x11_1))) ∧ (Kd.S k38 38 w' w.heap.size (fun _ => True) v103 t102) ∧ (Kd.R k29 29 w' w.heap.size (fun k_ => k_ ≠ s_) u10 x10_1) ∧ (w'.heap[s_]? = some (.cells #[.int .i64 0, .int .i64 0] 29 (0, 0))) ∧ (w.heap.size ≤ s_) ∧ (w.heap.size ≤ s_) ∧ (Below w.heap.size w w')) ?_ ?_
                    rotate_left
                    · intro hCont
                      refine two_ (i := 10) (j := 14) (Ni := some 46) (Nj := some 12) #[true, true, true, true, true, true, true, true, true, true, true, false, false, false, false, false, false] #[true, true, true, true, true, true, true, true, true, true, false, false, false, false, true, false, false] rfl rfl rfl rfl (two_of HT_.out Z310) (by decide) (by decide) (fun K hK => ?_) (fun K hK => ?_)
                      · skip
                        refine goes_ Try.func8 Z310 rfl #[.int .i64 (wrap64 (rd l1 x11_1)), .int .i64 (wrap64 (rd l2 x11_1))] (by rfl) rfl rfl Z311 ?_
                        with_reducible refine (num_Make.calls (wrap64 (rd l1 x11_1)) (wrap64 (rd l2 x11_1)) t107 t108 false _ A16.out).mono ?_
                        rintro e w28 ⟨rfl, hb⟩
                        refine ⟨_, rfl, ?_⟩
                        have n0_ := Aside0.mk (Kd.S_below Z315 hb)
                        have n1_ := Aside0.mk (Kd.R_below Z316 hb)
                        have n2_ := Aside0.mk (below_step Z312 hb)
                        clear HO_0
                        clear HO_10
                        clear HB
                        have HO_0 := n0_
                        have HO_10 := n1_
                        have HB := n2_
                        clear n0_ n1_ n2_
                        (try clear hb)
                        (try clear hb2)
                        (try clear hk)
                        (try clear hi)
                        refine hK.out _ _ ⟨((HB.out.cell (World.block_lt_of_cell? w _ hw105_0)).trans hw105_0), ((HB.out.cell (World.block_lt_of_cell? w _ hw106_0)).trans hw106_0)⟩ (fun hHeld => ?_)
                        clear hK K
                        refine norm_ (a' := ?_) ?_ ?_
                        rotate_left
                        · show Act.put _ (some 46) _ = _
                          simp only [Act.put, List.setIfInBounds_toArray, List.set_cons_zero, List.set_cons_succ, i64_w, i32_w]
                          rfl
                        refine pure_ (i := 11) (N := some 35) (v := ?_) (a' := ?_) #[true, true, true, true, true, true, true, true, true, true, true, true, false, false, false, false, false] rfl rfl (any_of HT_.out Z310) (fun _ _ _ h => h) (Or.inl ⟨by rfl, ?_⟩) ?_ ?_
                        rotate_left
                        · intro w'
                          go_simp
                          with_reducible rfl
                        rotate_left
                        · simp only [Act.put, List.setIfInBounds_toArray, List.set_cons_zero, List.set_cons_succ, i64_w, i32_w]
                          rfl
                        refine pure_ (i := 12) (N := some 47) (v := ?_) (a' := ?_) #[true, true, true, true, true, true, true, true, true, true, true, true, true, false, false, false, false] rfl rfl (any_of HT_.out Z310) (fun _ _ _ h => h) (Or.inl ⟨by rfl, ?_⟩) ?_ ?_
                        rotate_left
                        · intro w'
                          go_simp
                          with_reducible rfl
                        rotate_left
                        · simp only [Act.put, List.setIfInBounds_toArray, List.set_cons_zero, List.set_cons_succ, i64_w, i32_w]
                          rfl
                        refine pure_ (i := 13) (N := some 48) (v := ?_) (a' := ?_) #[true, true, true, true, true, true, true, true, true, true, true, true, true, true, false, false, false] rfl rfl (any_of HT_.out Z310) (fun _ _ _ h => h) (Or.inl ⟨by rfl, ?_⟩) ?_ ?_
                        rotate_left
                        · intro w'
                          go_simp
                          with_reducible rfl
                        rotate_left
                        · simp only [Act.put, List.setIfInBounds_toArray, List.set_cons_zero, List.set_cons_succ, i64_w, i32_w]
                          rfl
                        refine one_ (i := 14) (N := some 12) #[true, true, true, true, true, true, true, true, true, true, true, true, true, true, true, false, false] rfl rfl (one_of HT_.out Z310) (by decide) (fun K hK => ?_)
                        refine box_step ?hg (N := 12) ?hd (cs := #[.int .i64 0, .int .i64 0]) (t := 29) ?hr ?_; (case hd => rfl); (case hg => rfl); (case hr => first | (go_simp; done) | (go_simp; rfl))
                        intro gb110 hg w29 hbox hb
                        have n0_ := Aside0.mk (Kd.S_below Z315 hb)
                        have n1_ := Aside0.mk (Kd.R_below (Kd.R_elderB Z316 gb110 (Nat.le_of_eq hg.symm)) hb)
                        have n2_ := Aside0.mk (below_step Z312 hb)
                        have n3_ := Aside0.mk (hbox)
                        have n4_ := Aside0.mk ((by rw [hg]; exact (below_size Z312) : w.heap.size ≤ gb110))
                        have n5_ := Aside0.mk ((by rw [hg]; exact (below_size Z312) : w.heap.size ≤ gb110))
                        clear HO_0
                        clear HO_10
                        clear HB
                        have HO_0 := n0_
                        have HO_10 := n1_
                        have HB := n2_
                        have BK110 := n3_
                        have GW110 := n4_
                        have GE110 := n5_
                        clear n0_ n1_ n2_ n3_ n4_ n5_
                        clear hb hbox hg
                        refine hK.out _ _ ⟨((HB.out.cell (World.block_lt_of_cell? w _ hw105_0)).trans hw105_0), ((HB.out.cell (World.block_lt_of_cell? w _ hw106_0)).trans hw106_0)⟩ (fun hHeld => ?_)
                        clear hK K
                        refine norm_ (a' := ?_) ?_ ?_
                        rotate_left
                        · show Act.put _ (some 12) _ = _
                          simp only [Act.put, List.setIfInBounds_toArray, List.set_cons_zero, List.set_cons_succ, i64_w, i32_w]
                          rfl
                        exact norm_ Z317 (hCont (gb110) _ ⟨hHeld, Z315, Z318, Z319, GW110.out, GE110.out, Z31a⟩)
                      · skip
                        refine box_step ?hg (N := 12) ?hd (cs := #[.int .i64 0, .int .i64 0]) (t := 29) ?hr ?_; (case hd => rfl); (case hg => rfl); (case hr => first | (go_simp; done) | (go_simp; rfl))
                        intro gb110 hg w28 hbox hb
                        have n0_ := Aside0.mk (Kd.S_below Z315 hb)
                        have n1_ := Aside0.mk (Kd.R_below (Kd.R_elderB Z316 gb110 (Nat.le_of_eq hg.symm)) hb)
                        have n2_ := Aside0.mk (below_step Z312 hb)
                        have n3_ := Aside0.mk (hbox)
                        have n4_ := Aside0.mk ((by rw [hg]; exact (below_size Z312) : w.heap.size ≤ gb110))
                        have n5_ := Aside0.mk ((by rw [hg]; exact (below_size Z312) : w.heap.size ≤ gb110))
                        clear HO_0
                        clear HO_10
                        clear HB
                        have HO_0 := n0_
                        have HO_10 := n1_
                        have HB := n2_
                        have BK110 := n3_
                        have GW110 := n4_
                        have GE110 := n5_
                        clear n0_ n1_ n2_ n3_ n4_ n5_
                        clear hb hbox hg
                        refine hK.out _ _ ⟨((HB.out.cell (World.block_lt_of_cell? w _ hw105_0)).trans hw105_0), ((HB.out.cell (World.block_lt_of_cell? w _ hw106_0)).trans hw106_0)⟩ (fun hHeld => ?_)
                        clear hK K
                        refine norm_ (a' := ?_) ?_ ?_
                        rotate_left
                        · show Act.put _ (some 12) _ = _
                          simp only [Act.put, List.setIfInBounds_toArray, List.set_cons_zero, List.set_cons_succ, i64_w, i32_w]
                          rfl
                        refine one_ (i := 10) (N := some 46) #[true, true, true, true, true, true, true, true, true, true, true, false, false, false, true, false, false] rfl rfl (one_of HT_.out Z310) (by decide) (fun K hK => ?_)
                        refine goes_ Try.func8 Z310 rfl #[.int .i64 (wrap64 (rd l1 x11_1)), .int .i64 (wrap64 (rd l2 x11_1))] (by rfl) rfl rfl Z311 ?_
                        with_reducible refine (num_Make.calls (wrap64 (rd l1 x11_1)) (wrap64 (rd l2 x11_1)) t107 t108 false _ A16.out).mono ?_
                        rintro e w29 ⟨rfl, hb⟩
                        refine ⟨_, rfl, ?_⟩
                        have n0_ := Aside0.mk (Kd.S_below Z315 hb)
                        have n1_ := Aside0.mk (Kd.R_below Z316 hb)
                        have n2_ := Aside0.mk (blk_below (g := gb110) (o := .cells #[.int .i64 0, .int .i64 0] 29 (0, 0)) Z319 hb)
                        have n3_ := Aside0.mk (below_step Z31a hb)
                        clear HO_0
                        clear HO_10
                        clear BK110
                        clear HB
                        have HO_0 := n0_
                        have HO_10 := n1_
                        have BK110 := n2_
                        have HB := n3_
                        clear n0_ n1_ n2_ n3_
                        (try clear hb)
                        (try clear hb2)
                        (try clear hk)
                        (try clear hi)
                        refine hK.out _ _ ⟨((HB.out.cell (World.block_lt_of_cell? w _ hw105_0)).trans hw105_0), ((HB.out.cell (World.block_lt_of_cell? w _ hw106_0)).trans hw106_0)⟩ (fun hHeld => ?_)
                        clear hK K
                        refine norm_ (a' := ?_) ?_ ?_
                        rotate_left
                        · show Act.put _ (some 46) _ = _
                          simp only [Act.put, List.setIfInBounds_toArray, List.set_cons_zero, List.set_cons_succ, i64_w, i32_w]
                          rfl
                        refine pure_ (i := 11) (N := some 35) (v := ?_) (a' := ?_) #[true, true, true, true, true, true, true, true, true, true, true, true, false, false, true, false, false] rfl rfl (any_of HT_.out Z310) (fun _ _ _ h => h) (Or.inl ⟨by rfl, ?_⟩) ?_ ?_
                        rotate_left
                        · intro w'
                          go_simp
                          with_reducible rfl
                        rotate_left
                        · simp only [Act.put, List.setIfInBounds_toArray, List.set_cons_zero, List.set_cons_succ, i64_w, i32_w]
                          rfl
                        refine pure_ (i := 12) (N := some 47) (v := ?_) (a' := ?_) #[true, true, true, true, true, true, true, true, true, true, true, true, true, false, true, false, false] rfl rfl (any_of HT_.out Z310) (fun _ _ _ h => h) (Or.inl ⟨by rfl, ?_⟩) ?_ ?_
                        rotate_left
                        · intro w'
                          go_simp
                          with_reducible rfl
                        rotate_left
                        · simp only [Act.put, List.setIfInBounds_toArray, List.set_cons_zero, List.set_cons_succ, i64_w, i32_w]
                          rfl
                        refine pure_ (i := 13) (N := some 48) (v := ?_) (a' := ?_) #[true, true, true, true, true, true, true, true, true, true, true, true, true, true, true, false, false] rfl rfl (any_of HT_.out Z310) (fun _ _ _ h => h) (Or.inl ⟨by rfl, ?_⟩) ?_ ?_
                        rotate_left
                        · intro w'
                          go_simp
                          with_reducible rfl
                        rotate_left
                        · simp only [Act.put, List.setIfInBounds_toArray, List.set_cons_zero, List.set_cons_succ, i64_w, i32_w]
                          rfl
                        exact norm_ Z317 (hCont (gb110) _ ⟨hHeld, Z315, Z318, Z319, GW110.out, GE110.out, Z31a⟩)
                    rintro gb110 w30 ⟨hS_, h0_, h1_, h2_, h3_, h4_, h5_⟩
                    have n0_ : Aside0 (Kd.S k38 38 w30 w.heap.size (fun _ => True) v103 t102) := ⟨h0_⟩
                    have n1_ : Aside0 (Kd.R k29 29 w30 w.heap.size (fun k_ => k_ ≠ gb110) u10 x10_1) := ⟨h1_⟩
                    have n2_ : Aside0 (w30.heap[gb110]? = some (.cells #[.int .i64 0, .int .i64 0] 29 (0, 0))) := ⟨h2_⟩
                    have n3_ : Aside0 (w.heap.size ≤ gb110) := ⟨h3_⟩
                    have n4_ : Aside0 (w.heap.size ≤ gb110) := ⟨h4_⟩
                    have n5_ : Aside0 (Below w.heap.size w w30) := ⟨h5_⟩
                    clear HO_0
                    clear HO_10
                    clear HB
                    clear h0_ h1_ h2_ h3_ h4_ h5_
                    have HO_0 := n0_
                    have HO_10 := n1_
                    have BK110 := n2_
                    have GW110 := n3_
                    have GE110 := n4_
                    have HB := n5_
                    clear n0_ n1_ n2_ n3_ n4_ n5_
                    have hHeld : w30.cell? (ad105.add (x11_1).toNat) = some (.int .i8 (rd l1 x11_1)) ∧ w30.cell? (ad106.add (x11_1).toNat) = some (.int .u8 (rd l2 x11_1)) := hS_
                    refine norm_ (a' := ?_) ?_ ?_
                    rotate_left
                    · simp only [putAll, Act.put, List.setIfInBounds_toArray, List.set_cons_zero, List.set_cons_succ]
                      rfl
                    refine one_ (i := 15) (N := none) #[true, true, true, true, true, true, true, true, true, true, true, true, true, true, true, true, false] rfl rfl (one_of HT_.out Z310) (by decide) (fun K hK => ?_)
                    have hs31 : w30.cell? ⟨gb110, 0, none⟩ = some (.int .i64 0) := (blk_cell BK110.out 0).trans rfl
                    have hfs31 := blk_frozen BK110.out 0
                    have hs32 : w30.cell? ⟨gb110, 1, none⟩ = some (.int .i64 0) := (blk_cell BK110.out 1).trans rfl
                    have hfs32 := blk_frozen BK110.out 1
                    refine skip_ (w1 := ?_) (by rfl) rfl ?_ ?_
                    rotate_left
                    · go_simp
                      rfl
                    refine hK.out _ _ ⟨((cell_far (p := ⟨gb110, _, none⟩) Z31b _).trans (((cell_far (p := ⟨gb110, _, none⟩) Z31b _).trans (hHeld.1)))), ((cell_far (p := ⟨gb110, _, none⟩) Z31c _).trans (((cell_far (p := ⟨gb110, _, none⟩) Z31c _).trans (hHeld.2))))⟩ (fun hHeld => ?_)
                    clear hK K
                    refine pure_ (i := 16) (N := some 13) (v := ?_) (a' := ?_) #[true, true, true, true, true, true, true, true, true, true, true, true, true, true, true, true, true] rfl rfl (any_of HT_.out Z310) (fun _ _ _ h => h) (Or.inl ⟨by rfl, ?_⟩) ?_ ?_
                    rotate_left
                    · intro w'
                      go_simp
                      with_reducible rfl
                    rotate_left
                    · simp only [Act.put, List.setIfInBounds_toArray, List.set_cons_zero, List.set_cons_succ, i64_w, i32_w]
                      rfl
                    refine done_ (done_of HT_.out Z310) ?_
                    try go_wp2
                    go_roundg kj8
                    case measure => have := HK1.out; have := HJ8.out; omega
                    case rel => exact ⟨(x10_1), (wrap64 (x11_1 + 1)), Z313, H', ⟨by have := HK1.out; have := HJ8.out; omega⟩, ⟨by (with_reducible repeat (first | apply Kd.S_alloc | apply Kd.S_drewN | apply Kd.S_drew)); exact Kd.S_mono (Kd.S_far (p := ⟨gb110, 1, none⟩) (Kd.S_far (p := ⟨gb110, 0, none⟩) (Kd.S_types HO_0.out BK110.out (by decide)) (fun _ hk => hk.2) (.int .i64 t107)) (fun _ hk => hk.2) (.int .i64 t108)) (fun _ hk => trivial)⟩, ⟨by (with_reducible repeat (first | apply Kd.R_alloc | apply Kd.R_drewN | apply Kd.R_drew)); exact Kd.R_mono (Kd.R_far (p := ⟨gb110, 1, none⟩) (Kd.R_far (p := ⟨gb110, 0, none⟩) (Kd.R_mono HO_10.out (fun k_ hk => (⟨hk, hk⟩ : _ ∧ k_ ≠ gb110))) (fun _ hk => hk.2) (.int .i64 t107)) (fun _ hk => hk.2) (.int .i64 t108)) (fun _ hk => trivial)⟩, ⟨by repeat (first | (with_reducible first | exact HB.out | apply below_alloc | apply pw_below_drewN | apply below_drew1 | refine below_set ?_ GE110.out) | exact HB.out)⟩⟩
                · rw [if_neg c15] at H
                  exact absurd H (by simp)
              · rw [if_neg c14] at H
                exact absurd H (by simp)
            · rw [if_neg c13] at H
              exact absurd H (by simp)
          · replace c12 := Bool.eq_false_iff.mpr c12
            subst c12
            have H1 : (ashlarlaw11_LinearNever.l1 kj8 t102 l3 t101 x10_1 ([] : List Int) 0) = some r := by rw [if_neg (show ¬ (false = true) by decide)] at H; exact H
            clear H
            have H := H1
            clear H1
            have H' := Aside0.mk H
            clear H
            go_wp2
            go_loopg [14, 15] kj8 (fun kq v14 v15 w' => ∃ (x14_3 : List Int) (x15_3 : Int), v15 = .int .i64 x15_3 ∧ Aside0 (ashlarlaw11_LinearNever.l1 kq t102 l3 t101 x10_1 x14_3 x15_3 = some r) ∧ Aside0 (kq ≤ kj8) ∧ Aside0 (Kd.S k38 38 w' w.heap.size (fun k_ => some k_ ≠ (v14 : Value).ownBlock) v103 t102) ∧ Aside0 (Kd.R k29 29 w' w.heap.size (fun _ => True) u10 x10_1) ∧ Aside0 (Kd.R (Kd.int .i64) 2 w' w.heap.size (fun _ => True) v14 x14_3) ∧ Aside0 (Below w.heap.size w w'))
            case atStart => exact ⟨(([] : List Int)), (0), Z313, H', ⟨Nat.le_refl _⟩, ⟨by (with_reducible repeat (first | apply Kd.S_alloc | apply Kd.S_drewN | apply Kd.S_drew)); exact Kd.S_mono HO_0.out (fun _ hk => (by simp [Value.ownBlock]))⟩, ⟨by (with_reducible repeat (first | apply Kd.R_alloc | apply Kd.R_drewN | apply Kd.R_drew)); exact HO_10.out⟩, ⟨by first | exact Kd.R_nil _ _ _ _ _ | exact Kd.N_nil _ _ _ _ _ | exact Kd.V_nil _ _ _ _ _ | exact Kd.Q_nil _ _ _ _ _ | exact Kd.S_nil _ _ _ _ _⟩, ⟨by repeat (first | (with_reducible first | exact HB.out | apply below_alloc | apply pw_below_drewN | apply below_drew1) | exact HB.out)⟩⟩
            case round =>
              clear H'
              try clear c1
              try clear p1
              try clear q1
              try clear hx1
              try clear p2
              try clear p6
              try clear c8
              try clear p10
              try clear q10
              try clear hx10
              try clear c12
              try clear c13
              try clear c14
              try clear c15
              try clear c17
              try clear c18
              try clear hcz25_0
              try clear hcz25_1
              try clear hfz25_0
              try clear hfz25_1
              try clear hx105_0
              try clear hx106_0
              try clear p105
              try clear p106
              try clear q105
              try clear q106
              obtain ⟨x14_3, x15_3, rfl, HA, HK3, HO_0, HO_10, HO_14, HB⟩ := hrel
              cases gk with
              | zero => exact absurd HA.out (by simp [ashlarlaw11_LinearNever.l1])
              | succ k3 =>
                have H := HA.out
                clear HA
                simp only [ashlarlaw11_LinearNever.l1] at H
                by_cases c33 : x15_3 < (l3.length : Int)
                · rw [if_pos c33] at H
                  have c33b0 : decide (x15_3 < (l3.length : Int)) = true := decide_eq_true c33
                  clear c33
                  by_cases c34 : x15_3 < 30
                  · rw [if_pos c34] at H
                    have c34b0 : decide (x15_3 < 30) = true := decide_eq_true c34
                    clear c34
                    by_cases c35 : 0 ≤ x15_3
                    · rw [if_pos c35] at H
                      have c35b0 : decide (0 ≤ x15_3) = true := decide_eq_true c35
                      clear c35
                      by_cases c36 : x14_3.length < 17592186044416
                      · rw [if_pos c36] at H
                        have LMc36 := Aside0.mk c36
                        clear c36
                        obtain ⟨y115, hy115⟩ : ∃ y_ : List Int, y_ = (x14_3 ++ [wrap64 (rd l3 x15_3)]) := ⟨_, rfl⟩
                        replace H : (ashlarlaw11_LinearNever.l1 k3 t102 l3 t101 x10_1 y115 (wrap64 (x15_3 + 1))) = some r := by first | (rw [hy115]; with_reducible exact H) | (have H2_ := (Option.bind_some _ _).symm.trans H; rw [hy115]; with_reducible exact H2_) | (have H2_ := (Option.bind_some _ _).symm.trans H; with_reducible exact H2_) | with_reducible exact H | (rw [hy115]; exact H) | exact H
                        have Ny115 := Aside0.mk hy115
                        clear hy115
                        have H' := Aside0.mk H
                        clear H
                        have p114 : 0 ≤ (x15_3 : Int) := of_decide_eq_true Z314
                        have q114 : x15_3 < (l3.length : Int) := of_decide_eq_true Z314
                        obtain ⟨ad114, e114, hx114_0⟩ := Kd.at_int HR3.out x15_3 p114 q114
                        cases e114
                        replace hx114_0 := (HB.out.cell (World.block_lt_of_cell? w _ hx114_0)).trans hx114_0
                        replace p114 := eq_true p114
                        replace q114 := eq_true q114
                        go_wp2_with (first | ((with_reducible refine gate_builtin (b := .append) (xs := #[.tmp 64, .tmp 70]) rfl ?_); (try (refine gate_guard (by rfl) ?_; dsimp only)); at_builtin; refine Kd.R_append (Kd.int .i64) (w0 := w) w.heap.size rfl (.tmp 64) (.tmp 70) 33 2 (.int .i64 0) 8 rfl Try.underlying33 info2 rfl (by decide) (by omega) u14 x14_3 (wrap64 (rd l3 x15_3)) [.int .i64 (wrap64 (rd l3 x15_3))] (fun _ => True) (fun _ => False) rfl rfl ?aP (fun _ hk => hk.elim) ?aF ?aO ?aB ?aS ?aL ?_; (case aP => exact rfl); (case aB => exact Z312); (case aF => exact (fun _ _ => trivial)); (case aO => exact Z31e); (case aS => exact (below_size Z312)); (case aL => have := LMc36.out; omega); intro v116 w37 ho hb hg hat; rw [← Ny115.out] at ho; have n0_ := Aside0.mk (Kd.S_after (ok := (fun _ => True)) (by (with_reducible repeat (first | apply Kd.S_alloc | apply Kd.S_drewN | apply Kd.S_drew)); exact Kd.S_mono HO_0.out (fun _ hk => ⟨trivial, hk⟩)) hg hat); have n1_ := Aside0.mk (Kd.R_over' Z316 (Kd.R_typed Z31e) (by decide) hg); have n2_ := Aside0.mk (hb); have n3_ := Aside0.mk (ho); clear HO_0; clear HO_10; clear HB; clear HO_14; have HO_0 := n0_; have HO_10 := n1_; have HB := n2_; have HO117 := n3_; clear n0_ n1_ n2_ n3_; clear ho hb hg hat))
                        go_roundg k3
                        case measure => have := HK1.out; have := HJ8.out; have := HK3.out; omega
                        case rel => exact ⟨(y115), (wrap64 (x15_3 + 1)), Z313, H', ⟨by have := HK1.out; have := HJ8.out; have := HK3.out; omega⟩, ⟨by (with_reducible repeat (first | apply Kd.S_alloc | apply Kd.S_drewN | apply Kd.S_drew)); exact Kd.S_mono HO_0.out (fun _ hk => hk.2)⟩, ⟨by (with_reducible repeat (first | apply Kd.R_alloc | apply Kd.R_drewN | apply Kd.R_drew)); exact HO_10.out⟩, ⟨by (with_reducible repeat (first | apply Kd.R_alloc | apply Kd.R_drewN | apply Kd.R_drew)); exact HO117.out⟩, ⟨by repeat (first | (with_reducible first | exact HB.out | apply below_alloc | apply pw_below_drewN | apply below_drew1) | exact HB.out)⟩⟩
                      · rw [if_neg c36] at H
                        exact absurd H (by simp)
                    · rw [if_neg c35] at H
                      exact absurd H (by simp)
                  · rw [if_neg c34] at H
                    have c34b0 : decide (x15_3 < 30) = false := decide_eq_false c34
                    clear c34
                    by_cases c38 : t101 = true
                    · subst c38
                      have H1 : ((linear_CheckPoint.f t102 x10_1).bind fun t118 => (if t118 = true then ((linear_CheckFarkas.f t102 x14_3).bind fun t119 => (some (!t119))) else (some true))) = some r := by rw [if_pos rfl] at H; exact H
                      clear H
                      have H := H1
                      clear H1
                      replace H := Option.bind_eq_some_iff.mp H
                      obtain ⟨t118, A390, H⟩ := H
                      replace H : (if t118 = true then ((linear_CheckFarkas.f t102 x14_3).bind fun t119 => (some (!t119))) else (some true)) = some r := H
                      have A39 := Aside0.mk A390
                      clear A390
                      by_cases c40 : t118 = true
                      · subst c40
                        have H1 : ((linear_CheckFarkas.f t102 x14_3).bind fun t119 => (some (!t119))) = some r := by rw [if_pos rfl] at H; exact H
                        clear H
                        have H := H1
                        clear H1
                        replace H := Option.bind_eq_some_iff.mp H
                        obtain ⟨t119, A410, H⟩ := H
                        replace H : (some (!t119)) = some r := H
                        have A41 := Aside0.mk A410
                        clear A410
                        obtain rfl := Option.some.inj H
                        obtain ⟨Ao42, co42, eo42⟩ := Kd.S_slice HO_0.out
                        subst eo42
                        obtain ⟨Ao43, co43, eo43⟩ := Kd.R_slice HO_10.out
                        subst eo43
                        go_wp2_with (first | (go_at_call 9; (with_reducible refine (linear_CheckPoint.calls _ _ t102 _ _ x10_1 true _ ?side1 ?side2 ?side3 ?side4 A39.out).mono ?_); (case side1 => repeat (first | exact (Kd.S_reads' HO_0.out).2.2 | (with_reducible refine Kd.C_alloc ?_ _) | (with_reducible refine Kd.C_drewN ?_ _) | (with_reducible refine Kd.C_drew ?_))); (case side2 => exact (Kd.S_reads' HO_0.out).2.1); (case side3 => repeat (first | exact (Kd.R_reads' HO_10.out).2.2 | (with_reducible refine Kd.C_alloc ?_ _) | (with_reducible refine Kd.C_drewN ?_ _) | (with_reducible refine Kd.C_drew ?_))); (case side4 => exact (Kd.R_reads' HO_10.out).2.1); rintro e w44 ⟨rfl, hb⟩; have n0_ := Aside0.mk (Kd.S_below Z315 hb); have n1_ := Aside0.mk (Kd.R_below Z316 hb); have n2_ := Aside0.mk (Kd.R_below Z31e hb); have n3_ := Aside0.mk (below_step Z312 hb); clear HO_0; clear HO_10; clear HO_14; clear HB; have HO_0 := n0_; have HO_10 := n1_; have HO_14 := n2_; have HB := n3_; clear n0_ n1_ n2_ n3_; (try clear hb); (try clear hb2); (try clear hk); (try clear hi); obtain ⟨Ao45, co45, eo45⟩ := Kd.R_slice HO_14.out; subst eo45) | (go_at_call 10; (with_reducible refine (linear_CheckFarkas.calls _ _ t102 _ _ x14_3 t119 _ ?side1 ?side2 ?side3 ?side4 A41.out).mono ?_); (case side1 => repeat (first | exact (Kd.S_reads' HO_0.out).2.2 | (with_reducible refine Kd.C_alloc ?_ _) | (with_reducible refine Kd.C_drewN ?_ _) | (with_reducible refine Kd.C_drew ?_))); (case side2 => exact (Kd.S_reads' HO_0.out).2.1); (case side3 => repeat (first | exact (Kd.R_reads' HO_14.out).2.2 | (with_reducible refine Kd.C_alloc ?_ _) | (with_reducible refine Kd.C_drewN ?_ _) | (with_reducible refine Kd.C_drew ?_))); (case side4 => exact (Kd.R_reads' HO_14.out).2.1); rintro e w46 ⟨rfl, hb⟩; have n0_ := Aside0.mk (Kd.S_below Z315 hb); have n1_ := Aside0.mk (Kd.R_below Z316 hb); have n2_ := Aside0.mk (Kd.R_below Z31e hb); have n3_ := Aside0.mk (below_step Z312 hb); clear HO_0; clear HO_10; clear HO_14; clear HB; have HO_0 := n0_; have HO_10 := n1_; have HO_14 := n2_; have HB := n3_; clear n0_ n1_ n2_ n3_; (try clear hb); (try clear hb2); (try clear hk); (try clear hi)))
                        go_ret
                        exact ⟨by first | rfl | (simp [errW_none, errW_some] <;> rfl) | (simp [*, errW_none, errW_some] <;> rfl), by repeat (first | (with_reducible first | exact HB.out | apply below_alloc | apply pw_below_drewN | apply below_drew1) | exact HB.out)⟩
                      · replace c40 := Bool.eq_false_iff.mpr c40
                        subst c40
                        have H1 : (some true) = some r := by rw [if_neg (show ¬ (false = true) by decide)] at H; exact H
                        clear H
                        have H := H1
                        clear H1
                        obtain rfl := Option.some.inj H
                        obtain ⟨Ao47, co47, eo47⟩ := Kd.S_slice HO_0.out
                        subst eo47
                        obtain ⟨Ao48, co48, eo48⟩ := Kd.R_slice HO_10.out
                        subst eo48
                        go_wp2_with (first | (go_at_call 9; (with_reducible refine (linear_CheckPoint.calls _ _ t102 _ _ x10_1 false _ ?side1 ?side2 ?side3 ?side4 A39.out).mono ?_); (case side1 => repeat (first | exact (Kd.S_reads' HO_0.out).2.2 | (with_reducible refine Kd.C_alloc ?_ _) | (with_reducible refine Kd.C_drewN ?_ _) | (with_reducible refine Kd.C_drew ?_))); (case side2 => exact (Kd.S_reads' HO_0.out).2.1); (case side3 => repeat (first | exact (Kd.R_reads' HO_10.out).2.2 | (with_reducible refine Kd.C_alloc ?_ _) | (with_reducible refine Kd.C_drewN ?_ _) | (with_reducible refine Kd.C_drew ?_))); (case side4 => exact (Kd.R_reads' HO_10.out).2.1); rintro e w49 ⟨rfl, hb⟩; have n0_ := Aside0.mk (Kd.S_below Z315 hb); have n1_ := Aside0.mk (Kd.R_below Z316 hb); have n2_ := Aside0.mk (Kd.R_below Z31e hb); have n3_ := Aside0.mk (below_step Z312 hb); clear HO_0; clear HO_10; clear HO_14; clear HB; have HO_0 := n0_; have HO_10 := n1_; have HO_14 := n2_; have HB := n3_; clear n0_ n1_ n2_ n3_; (try clear hb); (try clear hb2); (try clear hk); (try clear hi)))
                        go_ret
                        exact ⟨by first | rfl | (simp [errW_none, errW_some] <;> rfl) | (simp [*, errW_none, errW_some] <;> rfl), by repeat (first | (with_reducible first | exact HB.out | apply below_alloc | apply pw_below_drewN | apply below_drew1) | exact HB.out)⟩
                    · replace c38 := Bool.eq_false_iff.mpr c38
                      subst c38
                      have H1 : (some false) = some r := by rw [if_neg (show ¬ (false = true) by decide)] at H; exact H
                      clear H
                      have H := H1
                      clear H1
                      obtain rfl := Option.some.inj H
                      go_wp2
                      go_ret
                      exact ⟨by first | rfl | (simp [errW_none, errW_some] <;> rfl) | (simp [*, errW_none, errW_some] <;> rfl), by repeat (first | (with_reducible first | exact HB.out | apply below_alloc | apply pw_below_drewN | apply below_drew1) | exact HB.out)⟩
                · rw [if_neg c33] at H
                  have c33b0 : decide (x15_3 < (l3.length : Int)) = false := decide_eq_false c33
                  clear c33
                  by_cases c50 : t101 = true
                  · subst c50
                    have H1 : ((linear_CheckPoint.f t102 x10_1).bind fun t120 => (if t120 = true then ((linear_CheckFarkas.f t102 x14_3).bind fun t121 => (some (!t121))) else (some true))) = some r := by rw [if_pos rfl] at H; exact H
                    clear H
                    have H := H1
                    clear H1
                    replace H := Option.bind_eq_some_iff.mp H
                    obtain ⟨t120, A510, H⟩ := H
                    replace H : (if t120 = true then ((linear_CheckFarkas.f t102 x14_3).bind fun t121 => (some (!t121))) else (some true)) = some r := H
                    have A51 := Aside0.mk A510
                    clear A510
                    by_cases c52 : t120 = true
                    · subst c52
                      have H1 : ((linear_CheckFarkas.f t102 x14_3).bind fun t121 => (some (!t121))) = some r := by rw [if_pos rfl] at H; exact H
                      clear H
                      have H := H1
                      clear H1
                      replace H := Option.bind_eq_some_iff.mp H
                      obtain ⟨t121, A530, H⟩ := H
                      replace H : (some (!t121)) = some r := H
                      have A53 := Aside0.mk A530
                      clear A530
                      obtain rfl := Option.some.inj H
                      obtain ⟨Ao54, co54, eo54⟩ := Kd.S_slice HO_0.out
                      subst eo54
                      obtain ⟨Ao55, co55, eo55⟩ := Kd.R_slice HO_10.out
                      subst eo55
                      go_wp2_with (first | (go_at_call 9; (with_reducible refine (linear_CheckPoint.calls _ _ t102 _ _ x10_1 true _ ?side1 ?side2 ?side3 ?side4 A51.out).mono ?_); (case side1 => repeat (first | exact (Kd.S_reads' HO_0.out).2.2 | (with_reducible refine Kd.C_alloc ?_ _) | (with_reducible refine Kd.C_drewN ?_ _) | (with_reducible refine Kd.C_drew ?_))); (case side2 => exact (Kd.S_reads' HO_0.out).2.1); (case side3 => repeat (first | exact (Kd.R_reads' HO_10.out).2.2 | (with_reducible refine Kd.C_alloc ?_ _) | (with_reducible refine Kd.C_drewN ?_ _) | (with_reducible refine Kd.C_drew ?_))); (case side4 => exact (Kd.R_reads' HO_10.out).2.1); rintro e w56 ⟨rfl, hb⟩; have n0_ := Aside0.mk (Kd.S_below Z315 hb); have n1_ := Aside0.mk (Kd.R_below Z316 hb); have n2_ := Aside0.mk (Kd.R_below Z31e hb); have n3_ := Aside0.mk (below_step Z312 hb); clear HO_0; clear HO_10; clear HO_14; clear HB; have HO_0 := n0_; have HO_10 := n1_; have HO_14 := n2_; have HB := n3_; clear n0_ n1_ n2_ n3_; (try clear hb); (try clear hb2); (try clear hk); (try clear hi); obtain ⟨Ao57, co57, eo57⟩ := Kd.R_slice HO_14.out; subst eo57) | (go_at_call 10; (with_reducible refine (linear_CheckFarkas.calls _ _ t102 _ _ x14_3 t121 _ ?side1 ?side2 ?side3 ?side4 A53.out).mono ?_); (case side1 => repeat (first | exact (Kd.S_reads' HO_0.out).2.2 | (with_reducible refine Kd.C_alloc ?_ _) | (with_reducible refine Kd.C_drewN ?_ _) | (with_reducible refine Kd.C_drew ?_))); (case side2 => exact (Kd.S_reads' HO_0.out).2.1); (case side3 => repeat (first | exact (Kd.R_reads' HO_14.out).2.2 | (with_reducible refine Kd.C_alloc ?_ _) | (with_reducible refine Kd.C_drewN ?_ _) | (with_reducible refine Kd.C_drew ?_))); (case side4 => exact (Kd.R_reads' HO_14.out).2.1); rintro e w58 ⟨rfl, hb⟩; have n0_ := Aside0.mk (Kd.S_below Z315 hb); have n1_ := Aside0.mk (Kd.R_below Z316 hb); have n2_ := Aside0.mk (Kd.R_below Z31e hb); have n3_ := Aside0.mk (below_step Z312 hb); clear HO_0; clear HO_10; clear HO_14; clear HB; have HO_0 := n0_; have HO_10 := n1_; have HO_14 := n2_; have HB := n3_; clear n0_ n1_ n2_ n3_; (try clear hb); (try clear hb2); (try clear hk); (try clear hi)))
                      go_ret
                      exact ⟨by first | rfl | (simp [errW_none, errW_some] <;> rfl) | (simp [*, errW_none, errW_some] <;> rfl), by repeat (first | (with_reducible first | exact HB.out | apply below_alloc | apply pw_below_drewN | apply below_drew1) | exact HB.out)⟩
                    · replace c52 := Bool.eq_false_iff.mpr c52
                      subst c52
                      have H1 : (some true) = some r := by rw [if_neg (show ¬ (false = true) by decide)] at H; exact H
                      clear H
                      have H := H1
                      clear H1
                      obtain rfl := Option.some.inj H
                      obtain ⟨Ao59, co59, eo59⟩ := Kd.S_slice HO_0.out
                      subst eo59
                      obtain ⟨Ao60, co60, eo60⟩ := Kd.R_slice HO_10.out
                      subst eo60
                      go_wp2_with (first | (go_at_call 9; (with_reducible refine (linear_CheckPoint.calls _ _ t102 _ _ x10_1 false _ ?side1 ?side2 ?side3 ?side4 A51.out).mono ?_); (case side1 => repeat (first | exact (Kd.S_reads' HO_0.out).2.2 | (with_reducible refine Kd.C_alloc ?_ _) | (with_reducible refine Kd.C_drewN ?_ _) | (with_reducible refine Kd.C_drew ?_))); (case side2 => exact (Kd.S_reads' HO_0.out).2.1); (case side3 => repeat (first | exact (Kd.R_reads' HO_10.out).2.2 | (with_reducible refine Kd.C_alloc ?_ _) | (with_reducible refine Kd.C_drewN ?_ _) | (with_reducible refine Kd.C_drew ?_))); (case side4 => exact (Kd.R_reads' HO_10.out).2.1); rintro e w61 ⟨rfl, hb⟩; have n0_ := Aside0.mk (Kd.S_below Z315 hb); have n1_ := Aside0.mk (Kd.R_below Z316 hb); have n2_ := Aside0.mk (Kd.R_below Z31e hb); have n3_ := Aside0.mk (below_step Z312 hb); clear HO_0; clear HO_10; clear HO_14; clear HB; have HO_0 := n0_; have HO_10 := n1_; have HO_14 := n2_; have HB := n3_; clear n0_ n1_ n2_ n3_; (try clear hb); (try clear hb2); (try clear hk); (try clear hi)))
                      go_ret
                      exact ⟨by first | rfl | (simp [errW_none, errW_some] <;> rfl) | (simp [*, errW_none, errW_some] <;> rfl), by repeat (first | (with_reducible first | exact HB.out | apply below_alloc | apply pw_below_drewN | apply below_drew1) | exact HB.out)⟩
                  · replace c50 := Bool.eq_false_iff.mpr c50
                    subst c50
                    have H1 : (some false) = some r := by rw [if_neg (show ¬ (false = true) by decide)] at H; exact H
                    clear H
                    have H := H1
                    clear H1
                    obtain rfl := Option.some.inj H
                    go_wp2
                    go_ret
                    exact ⟨by first | rfl | (simp [errW_none, errW_some] <;> rfl) | (simp [*, errW_none, errW_some] <;> rfl), by repeat (first | (with_reducible first | exact HB.out | apply below_alloc | apply pw_below_drewN | apply below_drew1) | exact HB.out)⟩

end Go.Proofs.Ytdkbnbebioflaaa.PLinearNever
