-- Written by a program of this session (myprint.py) out of the translation, with contracts of this session given.
import Derived.Test.YtmcfcmijopbinaaPWholePointx0
namespace Go.Proofs
theorem Zp11 {p q : Prop} (hq : q) (h : p = q := by first | (simp only [Act.put, List.setIfInBounds_toArray, List.set_cons_zero, List.set_cons_succ]; done) | (simp only [Act.put, List.setIfInBounds_toArray, List.set_cons_zero, List.set_cons_succ]; rfl) | rfl) : p := Eq.mpr h hq
theorem Z110 {p : Prop} (h : p := by kernel_rfl) : p := h
theorem Z111 {p : Prop} (h : p := by repeat (first | (with_reducible first | exact HB.out | apply below_alloc | apply pw_below_drewN | apply below_drew1) | exact HB.out)) : p := h
theorem Z112 {p : Prop} (h : p := by first | (with_reducible assumption) | assumption) : p := h
theorem Z113 {p : Prop} (h : p := by (with_reducible repeat (first | apply Kd.R_alloc | apply Kd.R_drewN | apply Kd.R_drew)); exact HO104.out) : p := h
theorem Z114 {p : Prop} (h : p := by (with_reducible repeat (first | apply Kd.R_alloc | apply Kd.R_drewN | apply Kd.R_drew)); exact (Kd.R_mono (Kd.R_far (p := ⟨gb105, 1, none⟩) (Kd.R_far (p := ⟨gb105, 0, none⟩) (Kd.R_types HO104.out BK105.out (by decide)) (fun _ hk => hk.2) (.slice Ao9 y102.length co9)) (fun _ hk => hk.2) (.int .i64 1)) (fun _ h_ => h_.1))) : p := h
theorem Z115 {p : Prop} (h : p := by repeat (first | (with_reducible first | exact HB.out | apply below_alloc | apply pw_below_drewN | apply below_drew1 | refine below_set ?_ GE105.out) | exact HB.out)) : p := h
theorem Z116 {p : Prop} (h : p := by (with_reducible repeat (first | refine blk_drewN ?_ _ | refine blk_drew ?_ | refine blk_alloc ?_ _)); exact BK105.out) : p := h
theorem Z117 {p : Prop} (h : p := by first | rfl | (simp; done) | (simp [*]; done)) : p := h
theorem Z118 {p : Prop} (h : p := by (with_reducible repeat (first | apply Kd.N_alloc | apply Kd.N_drewN | apply Kd.N_drew)); exact HO_5.out) : p := h
theorem Z119 {p : Prop} (h : p := by (with_reducible repeat (first | apply Kd.R_alloc | apply Kd.R_drewN | apply Kd.R_drew)); exact HO_106000.out) : p := h
theorem Z11a {p : Prop} (h : p := by (with_reducible repeat (first | apply Kd.R_alloc | apply Kd.R_drewN | apply Kd.R_drew)); exact HO_110000.out) : p := h
theorem Z11b {p : Prop} (h : p := by repeat (first | (with_reducible first | exact HB.out | apply below_alloc | apply pw_below_drewN | apply below_drew1 | refine below_set ?_ GE105.out | refine below_set ?_ GE109.out) | exact HB.out)) : p := h
theorem Z11c {p : Prop} (h : p := by (with_reducible repeat (first | refine blk_drewN ?_ _ | refine blk_drew ?_ | refine blk_alloc ?_ _)); exact BK109.out) : p := h
theorem Z11d {p : Prop} (h : p := by (with_reducible repeat (first | apply Kd.R_alloc | apply Kd.R_drewN | apply Kd.R_drew)); exact HO113.out) : p := h
theorem Z11e {p : Prop} (h : p := by (with_reducible repeat (first | apply Kd.R_alloc | apply Kd.R_drewN | apply Kd.R_drew)); exact (Kd.R_mono (Kd.R_far (p := ⟨gb114, 1, none⟩) (Kd.R_far (p := ⟨gb114, 0, none⟩) (Kd.R_types HO_106000.out BK114.out (by decide)) (fun _ hk => hk.2) (.slice Ao34 y111.length co34)) (fun _ hk => hk.2) (.int .i64 (wrap64 (-(Int.tmod (rd l0 x8_1) 3))))) (fun _ h_ => h_.1))) : p := h
theorem Z11f {p : Prop} (h : p := by (with_reducible repeat (first | apply Kd.R_alloc | apply Kd.R_drewN | apply Kd.R_drew)); exact (Kd.R_mono (Kd.R_far (p := ⟨gb114, 1, none⟩) (Kd.R_far (p := ⟨gb114, 0, none⟩) (Kd.R_types HO_110000.out BK114.out (by decide)) (fun _ hk => hk.2) (.slice Ao34 y111.length co34)) (fun _ hk => hk.2) (.int .i64 (wrap64 (-(Int.tmod (rd l0 x8_1) 3))))) (fun _ h_ => h_.1))) : p := h
theorem Z11g {p : Prop} (h : p := by (with_reducible repeat (first | apply Kd.R_alloc | apply Kd.R_drewN | apply Kd.R_drew)); exact (Kd.R_mono (Kd.R_far (p := ⟨gb114, 1, none⟩) (Kd.R_far (p := ⟨gb114, 0, none⟩) (Kd.R_types HO113.out BK114.out (by decide)) (fun _ hk => hk.2) (.slice Ao34 y111.length co34)) (fun _ hk => hk.2) (.int .i64 (wrap64 (-(Int.tmod (rd l0 x8_1) 3))))) (fun _ h_ => h_.1))) : p := h
theorem Z11h {p : Prop} (h : p := by repeat (first | (with_reducible first | exact HB.out | apply below_alloc | apply pw_below_drewN | apply below_drew1 | refine below_set ?_ GE105.out | refine below_set ?_ GE109.out | refine below_set ?_ GE114.out) | exact HB.out)) : p := h
theorem Z11i {p : Prop} (h : p := by (with_reducible repeat (first | refine blk_drewN ?_ _ | refine blk_drew ?_ | refine blk_alloc ?_ _)); exact BK114.out) : p := h
theorem Z11j {p : Prop} (h : p := by repeat (first | (with_reducible first | exact HB.out | apply below_alloc | apply pw_below_drewN | apply below_drew1 | refine below_set ?_ GE105.out | refine below_set ?_ GE109.out | refine below_set ?_ GE114.out | refine below_set ?_ GE118.out) | exact HB.out)) : p := h
theorem Z11k {p : Prop} (h : p := by (with_reducible repeat (first | refine blk_drewN ?_ _ | refine blk_drew ?_ | refine blk_alloc ?_ _)); exact BK118.out) : p := h
theorem Z11l {p : Prop} (h : p := by intro w_; go_simp; done) : p := h
theorem Z11m {p : Prop} (h : p := by exact hHeld.keep hb2) : p := h
theorem Z11n {p : Prop} (h : p := by have := HLM.out; unfold maxLen; omega) : p := h
theorem Z11o {p : Prop} (h : p := by have := HLM.out; omega) : p := h
theorem Z11p {p : Prop} (h : p := by exact hHeld.grown hg (fun k h => by cases h; have := HLT.out; have := HG0.out; show g0_ ≠ _; omega) (fun k h => by cases h; exact HG0.out)) : p := h
theorem Z11q {p : Prop} (h : p := by exact hHeld.grown hg2 (fun k h => by have := (HV1.out.lt k h).1; have := HLT.out; omega) (fun k h => (HV1.out.lt k h).1)) : p := h
theorem Z11r {p : Prop} (h : p := by exact hHeld.grown hg (fun k h => by cases h; have := HLT5.out; have := HG0.out; show g0_ ≠ _; omega) (fun k h => by cases h; exact HG0.out)) : p := h
theorem Z11s {p : Prop} (h : p := by exact hHeld.grown hg2 (fun k h => by have := (HV1.out.lt k h).1; have := HLT5.out; omega) (fun k h => (HV1.out.lt k h).1)) : p := h
end Go.Proofs
namespace Go.Proofs.Ytmcfcmijopbinaa.PWholePoint
open Go.RowKit Go.Proofs.Ytmcfcmijopbinaa.Given Go.Proofs.Ytmcfcmijopbinaa.Ln Go.Proofs.YtmcfcmijopbinaaW.PrintWords Go.Proofs.YtmcfcmijopbinaaW.PrintLast Go.Proofs.YtmcfcmijopbinaaW.PrintMore
attribute [local go_sem] max2_int min2_int max_two min_two max_three min_three max_four min_four
set_option linter.unusedVariables false
set_option linter.unusedSimpArgs false
open Go.Proofs.Ytmcfcmijopbinaa.Ln Go.Proofs.Ytmcfcmijopbinaa.Num Go.Proofs.Ytmcfcmijopbinaa.Lin
theorem share6 {Goal : Prop} {Φ : Nat → Value → Nat → Option Addr → Nat → Value → World → Prop} (Facts : World → Prop) (h1 : (∀ g v g' a c u w, Facts w → Φ g v g' a c u w) → Goal) (h2 : ∀ g v g' a c u w, Facts w → Φ g v g' a c u w) : Goal := h1 h2
mutual
def ashlarlaw12_WholePoint.l0 : Nat → List Int → Bool → Int → List (S25) → Int → List Int → Int → List Int → Int → Option (Bool)
 | 0, _, _, _, _, _, _, _, _, _ => none
 | k + 1, x0, x3, x4, x5, x8, x106000, x106001, x110000, x110001 => if x8 < x4 then (if 0 ≤ x8 then (if x8 < (x0.length : Int) then (if 0 ≤ x4 then (if (x4 : Int).toNat ≤ 35184372088832 then ((some (List.replicate (x4 : Int).toNat 0 : List Int)).bind fun y111 => ((some (List.replicate (x4 : Int).toNat 0 : List Int)).bind fun y115 => (if x8 < (y111.length : Int) then (if x8 < (y115.length : Int) then ((some (([(⟨(y111.set (x8 : Int).toNat 1), wrap64 (-(Int.tmod (rd x0 x8) 3))⟩ : S25), (⟨(y115.set (x8 : Int).toNat (-1)), Int.tmod (rd x0 x8) 3⟩ : S25)] : List (S25)) : List (S25))).bind fun y121 => (if x5.length + y121.length < 4398046511104 then (if x8 < (x106000.length : Int) then (if x8 < (x110000.length : Int) then (ashlarlaw12_WholePoint.l0 k x0 x3 x4 (x5 ++ y121) (wrap64 (x8 + 1)) (x106000.set (x8 : Int).toNat (-1)) (wrap64 (x106001 + (Int.tmod (rd x0 x8) 3))) (x110000.set (x8 : Int).toNat 1) (wrap64 (x110001 - (Int.tmod (rd x0 x8) 3)))) else (none)) else (none)) else (none))) else (none)) else (none)))) else (none)) else (none)) else (none)) else (none)) else ((whole_Solve.f x5 x4 1000).bind fun bt129 => (if bt129.1 = 1 then (ashlarlaw12_WholePoint.j1 k x0 x3 x4 x5 bt129.2 ((bt129.2.length : Int) != x4) x106000 x106001 x110000 x110001) else (ashlarlaw12_WholePoint.j1 k x0 x3 x4 x5 bt129.2 true x106000 x106001 x110000 x110001)))
def ashlarlaw12_WholePoint.j1 : Nat → List Int → Bool → Int → List (S25) → List Int → Bool → List Int → Int → List Int → Int → Option (Bool)
 | 0, _, _, _, _, _, _, _, _, _, _ => none
 | k + 1, x0, x3, x4, x5, x13, x92, x106000, x106001, x110000, x110001 => if x92 = true then (some false) else (ashlarlaw12_WholePoint.l1 k x0 x3 x4 x5 x13 0 x106000 x106001 x110000 x110001)
def ashlarlaw12_WholePoint.l1 : Nat → List Int → Bool → Int → List (S25) → List Int → Int → List Int → Int → List Int → Int → Option (Bool)
 | 0, _, _, _, _, _, _, _, _, _, _ => none
 | k + 1, x0, x3, x4, x5, x13, x14, x106000, x106001, x110000, x110001 => if x14 < x4 then (if 0 ≤ x14 then (if x14 < (x13.length : Int) then (if x14 < (x0.length : Int) then (if (rd x13 x14) = (Int.tmod (rd x0 x14) 3) then (ashlarlaw12_WholePoint.l1 k x0 x3 x4 x5 x13 (wrap64 (x14 + 1)) x106000 x106001 x110000 x110001) else (some false)) else (none)) else (none)) else (none)) else ((some (([] : List (S25)) : List (S25))).bind fun y135 => (if y135.length + x5.length < 4398046511104 then ((some (y135 ++ x5 : List (S25))).bind fun y138 => ((some (([(⟨x106000, x106001⟩ : S25)] : List (S25)) : List (S25))).bind fun y141 => (if y138.length + y141.length < 4398046511104 then ((whole_Solve.f (y138 ++ y141) x4 1000).bind fun bt147 => ((some (([] : List (S25)) : List (S25))).bind fun y151 => (if y151.length + x5.length < 4398046511104 then ((some (y151 ++ x5 : List (S25))).bind fun y154 => ((some (([(⟨x110000, x110001⟩ : S25)] : List (S25)) : List (S25))).bind fun y157 => (if y154.length + y157.length < 4398046511104 then ((whole_Solve.f (y154 ++ y157) x4 1000).bind fun bt163 => (if x3 = true then (if bt147.1 = 2 then (some (bt163.1 == 1)) else (some false)) else (some false))) else (none)))) else (none)))) else (none)))) else (none)))
end
def ashlarlaw12_WholePoint.f (k : Nat) (l0 : List Int) : Option (Bool) := (ashlarlaw12_shown.f).bind fun t101 => (if 0 ≤ (mn (l0.length : Int) 3) then (if (mn (l0.length : Int) 3 : Int).toNat ≤ 35184372088832 then (ashlarlaw12_WholePoint.l0 k l0 t101 (mn (l0.length : Int) 3) ([] : List (S25)) 0 (List.replicate (mn (l0.length : Int) 3 : Int).toNat 0) 1 (List.replicate (mn (l0.length : Int) 3 : Int).toNat 0) 0) else (none)) else (none))
theorem ashlarlaw12_WholePoint.mono_l : ∀ k, (∀ y0 y1 y2 y3 y4 y5 y6 y7 y8, LeO (ashlarlaw12_WholePoint.l0 k y0 y1 y2 y3 y4 y5 y6 y7 y8) (ashlarlaw12_WholePoint.l0 (k + 1) y0 y1 y2 y3 y4 y5 y6 y7 y8)) ∧ (∀ y0 y1 y2 y3 y4 y5 y6 y7 y8 y9, LeO (ashlarlaw12_WholePoint.j1 k y0 y1 y2 y3 y4 y5 y6 y7 y8 y9) (ashlarlaw12_WholePoint.j1 (k + 1) y0 y1 y2 y3 y4 y5 y6 y7 y8 y9)) ∧ (∀ y0 y1 y2 y3 y4 y5 y6 y7 y8 y9, LeO (ashlarlaw12_WholePoint.l1 k y0 y1 y2 y3 y4 y5 y6 y7 y8 y9) (ashlarlaw12_WholePoint.l1 (k + 1) y0 y1 y2 y3 y4 y5 y6 y7 y8 y9))
 | 0 => ⟨fun _ _ _ _ _ _ _ _ _ r h => by simp [ashlarlaw12_WholePoint.l0] at h, fun _ _ _ _ _ _ _ _ _ _ r h => by simp [ashlarlaw12_WholePoint.j1] at h, fun _ _ _ _ _ _ _ _ _ _ r h => by simp [ashlarlaw12_WholePoint.l1] at h⟩
 | k + 1 => by
  obtain ⟨ih0, ih1, ih2⟩ := ashlarlaw12_WholePoint.mono_l k
  refine ⟨?_, ?_, ?_⟩
  ·intro y0 y1 y2 y3 y4 y5 y6 y7 y8
   unfold ashlarlaw12_WholePoint.l0
   repeat' first
   | (with_reducible exact ih0 _ _ _ _ _ _ _ _ _)
   | (with_reducible exact ih1 _ _ _ _ _ _ _ _ _ _)
   | (with_reducible exact ih2 _ _ _ _ _ _ _ _ _ _)
   | (with_reducible exact LeO.refl _)
   | (with_reducible exact LeO.none _)
   | (with_reducible refine LeO.ite ?_ ?_)
   | (with_reducible refine LeO.bind ?_ (fun _ => ?_))
   | exact ih0 _ _ _ _ _ _ _ _ _
   | exact ih1 _ _ _ _ _ _ _ _ _ _
   | exact ih2 _ _ _ _ _ _ _ _ _ _
   | exact LeO.none _
   | refine LeO.ite ?_ ?_
   | refine LeO.bind ?_ (fun _ => ?_)
  ·intro y0 y1 y2 y3 y4 y5 y6 y7 y8 y9
   unfold ashlarlaw12_WholePoint.j1
   repeat' first
   | (with_reducible exact ih0 _ _ _ _ _ _ _ _ _)
   | (with_reducible exact ih1 _ _ _ _ _ _ _ _ _ _)
   | (with_reducible exact ih2 _ _ _ _ _ _ _ _ _ _)
   | (with_reducible exact LeO.refl _)
   | (with_reducible exact LeO.none _)
   | (with_reducible refine LeO.ite ?_ ?_)
   | (with_reducible refine LeO.bind ?_ (fun _ => ?_))
   | exact ih0 _ _ _ _ _ _ _ _ _
   | exact ih1 _ _ _ _ _ _ _ _ _ _
   | exact ih2 _ _ _ _ _ _ _ _ _ _
   | exact LeO.none _
   | refine LeO.ite ?_ ?_
   | refine LeO.bind ?_ (fun _ => ?_)
  ·intro y0 y1 y2 y3 y4 y5 y6 y7 y8 y9
   unfold ashlarlaw12_WholePoint.l1
   repeat' first
   | (with_reducible exact ih0 _ _ _ _ _ _ _ _ _)
   | (with_reducible exact ih1 _ _ _ _ _ _ _ _ _ _)
   | (with_reducible exact ih2 _ _ _ _ _ _ _ _ _ _)
   | (with_reducible exact LeO.refl _)
   | (with_reducible exact LeO.none _)
   | (with_reducible refine LeO.ite ?_ ?_)
   | (with_reducible refine LeO.bind ?_ (fun _ => ?_))
   | exact ih0 _ _ _ _ _ _ _ _ _
   | exact ih1 _ _ _ _ _ _ _ _ _ _
   | exact ih2 _ _ _ _ _ _ _ _ _ _
   | exact LeO.none _
   | refine LeO.ite ?_ ?_
   | refine LeO.bind ?_ (fun _ => ?_)
theorem ashlarlaw12_WholePoint.mono : ∀ a0 k, LeO (ashlarlaw12_WholePoint.f k a0) (ashlarlaw12_WholePoint.f (k + 1) a0) := by
 intro a0 k
 obtain ⟨ih0, ih1, ih2⟩ := ashlarlaw12_WholePoint.mono_l k
 unfold ashlarlaw12_WholePoint.f
 repeat' first
   | (with_reducible exact ih0 _ _ _ _ _ _ _ _ _)
   | (with_reducible exact ih1 _ _ _ _ _ _ _ _ _ _)
   | (with_reducible exact ih2 _ _ _ _ _ _ _ _ _ _)
   | (with_reducible exact LeO.refl _)
   | (with_reducible exact LeO.none _)
   | (with_reducible refine LeO.ite ?_ ?_)
   | (with_reducible refine LeO.bind ?_ (fun _ => ?_))
   | exact ih0 _ _ _ _ _ _ _ _ _
   | exact ih1 _ _ _ _ _ _ _ _ _ _
   | exact ih2 _ _ _ _ _ _ _ _ _ _
   | exact LeO.none _
   | refine LeO.ite ?_ ?_
   | refine LeO.bind ?_ (fun _ => ?_)
def ashlarlaw12_WholePoint.T25 : Bool × List (List Nat × List Nat) := (true, [([], []), ([], []), ([0, 1], [0, 1]), ([2], [2]), ([], []), ([], []), ([4, 5], [4, 5]), ([6], [6]), ([7], [7]), ([3, 8], [3, 8])])
def ashlarlaw12_WholePoint.B25 : List Nat := [0, 0, 3, 7, 0, 0, 48, 112, 240, 511]
theorem ashlarlaw12_WholePoint.tab25 : rtab .any (opsOf Try.f5 25) = ashlarlaw12_WholePoint.T25 := by kernel_rfl
theorem ashlarlaw12_WholePoint.bits25 : waitsOk ashlarlaw12_WholePoint.T25.2 ashlarlaw12_WholePoint.B25 = true := by kernel_rfl
def ashlarlaw12_WholePoint.T27 : Bool × List (List Nat × List Nat) := (true, [([], []), ([], []), ([0, 1], [0, 1]), ([], []), ([3], [3]), ([2, 4, 2], [2, 4]), ([], []), ([5, 6, 5], [5, 6]), ([7], [7]), ([8], [8]), ([8], [8]), ([9, 7, 0, 1, 2, 3, 4, 5, 6, 7, 8, 9], [9]), ([10, 11, 0, 1, 2, 3, 4, 5, 6, 7, 8, 9, 10, 11], [10])])
def ashlarlaw12_WholePoint.B27 : List Nat := [0, 0, 3, 0, 8, 31, 0, 127, 255, 511, 511, 1023, 4095]
theorem ashlarlaw12_WholePoint.tab27 : rtab .any (opsOf Try.f5 27) = ashlarlaw12_WholePoint.T27 := by kernel_rfl
theorem ashlarlaw12_WholePoint.bits27 : waitsOk ashlarlaw12_WholePoint.T27.2 ashlarlaw12_WholePoint.B27 = true := by kernel_rfl
def ashlarlaw12_WholePoint.T28 : Bool × List (List Nat × List Nat) := (true, [([], []), ([], []), ([0, 1], [0, 1]), ([], []), ([3], [3]), ([2, 4, 2], [2, 4]), ([], []), ([5, 6, 5], [5, 6]), ([7], [7]), ([8], [8]), ([8], [8]), ([9, 7, 0, 1, 2, 3, 4, 5, 6, 7, 8, 9], [9]), ([10, 11, 0, 1, 2, 3, 4, 5, 6, 7, 8, 9, 10, 11], [10])])
def ashlarlaw12_WholePoint.B28 : List Nat := [0, 0, 3, 0, 8, 31, 0, 127, 255, 511, 511, 1023, 4095]
theorem ashlarlaw12_WholePoint.tab28 : rtab .any (opsOf Try.f5 28) = ashlarlaw12_WholePoint.T28 := by kernel_rfl
theorem ashlarlaw12_WholePoint.bits28 : waitsOk ashlarlaw12_WholePoint.T28.2 ashlarlaw12_WholePoint.B28 = true := by kernel_rfl
set_option maxHeartbeats 8000000 in
set_option maxRecDepth 100000 in
theorem ashlarlaw12_WholePoint.calls (k : Nat) (A0 : Option Addr) (c0 : Nat) (l0 : List Int) (r : Bool) (w : World) (hrt : r = true) (hr0 : Kd.C (Kd.int .i64) w A0 l0.length l0) (hc0 : l0.length ≤ c0) (h : ashlarlaw12_WholePoint.f k l0 = some r) :
  Calls Try.prog 5 #[.slice A0 l0.length c0] w fun e w' => e = .returned (.bool r) ∧ Below w.heap.size w w' := by
 have hu25 := Try.underlying25
 have HR0 := Aside0.mk hr0
 have HC0 := Aside0.mk hc0
 clear hr0 hc0
 have HB := Aside0.mk (Below.refl w.heap.size w)
 have H : ((ashlarlaw12_shown.f).bind fun t101 => (if 0 ≤ (mn (l0.length : Int) 3) then (if (mn (l0.length : Int) 3 : Int).toNat ≤ 35184372088832 then (ashlarlaw12_WholePoint.l0 k l0 t101 (mn (l0.length : Int) 3) ([] : List (S25)) 0 (List.replicate (mn (l0.length : Int) 3 : Int).toNat 0) 1 (List.replicate (mn (l0.length : Int) 3 : Int).toNat 0) 0) else (none)) else (none))) = some r := h
 clear h
 replace H := Option.bind_eq_some_iff.mp H
 obtain ⟨t101, A20, H⟩ := H
 replace H : (if 0 ≤ (mn (l0.length : Int) 3) then (if (mn (l0.length : Int) 3 : Int).toNat ≤ 35184372088832 then (ashlarlaw12_WholePoint.l0 k l0 t101 (mn (l0.length : Int) 3) ([] : List (S25)) 0 (List.replicate (mn (l0.length : Int) 3 : Int).toNat 0) 1 (List.replicate (mn (l0.length : Int) 3 : Int).toNat 0) 0) else (none)) else (none)) = some r := H
 have A2 := Aside0.mk A20
 clear A20
 obtain ⟨ji3, hji3⟩ : ∃ j_ : Int, (mn (l0.length : Int) 3) = j_ := ⟨_, rfl⟩
 replace H : (if 0 ≤ (ji3) then (if (ji3 : Int).toNat ≤ 35184372088832 then (ashlarlaw12_WholePoint.l0 k l0 t101 ji3 ([] : List (S25)) 0 (List.replicate (ji3 : Int).toNat 0) 1 (List.replicate (ji3 : Int).toNat 0) 0) else (none)) else (none)) = some r := by first | (rw [hji3] at H; exact H) | (simp only [hji3] at H ⊢; exact H)
 (try rw [hji3] at A2)
 (try (have hji3h : ji3 ≤ 3 := by (rw [← hji3]; unfold mn; (repeat' split) <;> omega)))
 (try (have hji3g : ji3 ≤ 64 := by omega))
 (try (have hji3l : 0 ≤ ji3 := by (rw [← hji3]; unfold mn; (repeat' split) <;> omega)))
 (try (have hji3m : 0 ≤ ji3 := by omega))
 have hji3_ : (if 3 < (l0.length : Int) then 3 else (l0.length : Int)) = ji3 := hji3
 by_cases c4 : 0 ≤ (ji3)
 ·rw [if_pos c4] at H
  have c4b0 := eq_true c4
  have c4b1 : decide (0 ≤ (ji3)) = true := decide_eq_true c4
  clear c4
  by_cases c5 : (ji3 : Int).toNat ≤ 35184372088832
  ·rw [if_pos c5] at H
   have c5b0 := eq_true c5
   have c5b1 : decide ((ji3 : Int).toNat ≤ 35184372088832) = true := decide_eq_true c5
   clear c5
   obtain ⟨y102, hy102⟩ : ∃ y_ : List Int, y_ = (List.replicate (ji3 : Int).toNat 0) := ⟨_, rfl⟩
   replace H : (ashlarlaw12_WholePoint.l0 k l0 t101 ji3 ([] : List (S25)) 0 y102 1 (List.replicate (ji3 : Int).toNat 0) 0) = some r := by first | (rw [hy102]; with_reducible exact H) | (have H2_ := (Option.bind_some _ _).symm.trans H; rw [hy102]; with_reducible exact H2_) | (have H2_ := (Option.bind_some _ _).symm.trans H; with_reducible exact H2_) | with_reducible exact H | (rw [hy102]; exact H) | exact H
   have Ny102 := Aside0.mk hy102
   clear hy102
   obtain ⟨y106, hy106⟩ : ∃ y_ : List Int, y_ = (List.replicate (ji3 : Int).toNat 0) := ⟨_, rfl⟩
   replace H : (ashlarlaw12_WholePoint.l0 k l0 t101 ji3 ([] : List (S25)) 0 y102 1 y106 0) = some r := by first | (rw [hy106]; with_reducible exact H) | (have H2_ := (Option.bind_some _ _).symm.trans H; rw [hy106]; with_reducible exact H2_) | (have H2_ := (Option.bind_some _ _).symm.trans H; with_reducible exact H2_) | with_reducible exact H | (rw [hy106]; exact H) | exact H
   have Ny106 := Aside0.mk hy106
   clear hy106
   have H' := Aside0.mk H
   clear H
   go_enter Try.func5, Try.ntmps5
   go_wp2_with (first | ((with_reducible refine gate_callee (f := 6) rfl ?_); refine goesL_ (some 19) rfl rfl Try.func6 Z110 rfl #[] rfl (by (try simp only [List.map_toArray, List.map_cons, List.map_nil]); first | done | rfl | (simp only [List.length_drop, List.length_take]; rfl)) ?_; (with_reducible refine (ashlarlaw12_shown.calls  t101 _ A2.out).mono ?_); rintro e w6 ⟨rfl, hb⟩; refine ⟨_, rfl, ?_⟩; have n0_ := Aside0.mk (below_step Z111 hb); clear HB; have HB := n0_; clear n0_; (try clear hb); (try clear hb2); (try clear hk); (try clear hi)) | ((with_reducible refine gate_dst (N := 24) rfl ?_); (try (refine gate_guard (by rfl) ?_; dsimp only)); refine Kd.R_make (Kd.int .i64) _ 2 rfl (N := 24) rfl 23 _ _ rfl ji3 rfl rfl Try.underlying23 (.int .i64 0) 8 info2 rfl (by decide) (by omega) 0 (ok := fun _ => True) (okp := fun _ => True) rfl (fun _ hk => hk) trivial (of_decide_eq_true Z112) (Nat.le_trans (Nat.mul_le_mul_right _ (of_decide_eq_true Z112 : ji3.toNat ≤ 35184372088832)) (by omega)) (Below.refl _ _) (Nat.le_refl _) ?_; intro v103 w7 ho8 hb hg_ hnew_; clear hg_ hnew_; (first | rw [← Ny102.out] at ho8 | (simp only [Int.reduceToNat] at ho8; rw [← Ny102.out] at ho8)); have n0_ := Aside0.mk (Kd.R_lower ho8 (below_size Z111)); have n1_ := Aside0.mk (below_step Z111 hb); clear HB; have HO104 := n0_; have HB := n1_; clear n0_ n1_; clear hb ho8; obtain ⟨Ao9, co9, eo9⟩ := Kd.R_slice HO104.out; subst eo9) | ((with_reducible refine gate_dst (N := 6) rfl ?_); (try (refine gate_guard (by rfl) ?_; dsimp only)); refine box_event ?hg (N := 6) ?hd (cs := #[.slice none 0 0, .int .i64 0]) (t := 25) ?hr ?_; (case hd => rfl); (case hg => rfl); (case hr => first | (go_simp; done) | (go_simp; rfl)); intro gb105 hg w10 hbox hb; have n0_ := Aside0.mk (Kd.R_below Z113 hb); have n1_ := Aside0.mk (below_step Z111 hb); have n2_ := Aside0.mk (hbox); have n3_ := Aside0.mk ((by rw [hg]; exact (below_size Z111) : w.heap.size ≤ gb105)); have n4_ := Aside0.mk ((by rw [hg]; exact (below_size Z111) : w.heap.size ≤ gb105)); clear HO104; clear HB; have HO104 := n0_; have HB := n1_; have BK105 := n2_; have GW105 := n3_; have GE105 := n4_; clear n0_ n1_ n2_ n3_ n4_; clear hb hbox hg; have hcz11_0 : w10.cell? ⟨gb105, 0, none⟩ = some (.slice none 0 0) := (blk_cell BK105.out 0).trans rfl; have hcz11_1 : w10.cell? ⟨gb105, 1, none⟩ = some (.int .i64 0) := (blk_cell BK105.out 1).trans rfl; have hfz11_0 := blk_frozen BK105.out 0; have hfz11_1 := blk_frozen BK105.out 1) | ((with_reducible refine gate_dst (N := 27) rfl ?_); (try (refine gate_guard (by rfl) ?_; dsimp only)); refine Kd.R_make (Kd.int .i64) _ 2 rfl (N := 27) rfl 23 _ _ rfl ji3 rfl rfl Try.underlying23 (.int .i64 0) 8 info2 rfl (by decide) (by omega) 0 (ok := fun _ => True) (okp := fun _ => True) rfl (fun _ hk => hk) trivial (of_decide_eq_true Z112) (Nat.le_trans (Nat.mul_le_mul_right _ (of_decide_eq_true Z112 : ji3.toNat ≤ 35184372088832)) (by omega)) (Below.refl _ _) (Nat.le_refl _) ?_; intro v107 w12 ho13 hb hg_ hnew_; clear hg_ hnew_; (first | rw [← Ny106.out] at ho13 | (simp only [Int.reduceToNat] at ho13; rw [← Ny106.out] at ho13)); have n0_ := Aside0.mk (Kd.R_elder' Z114 (Kd.R_base ho13) hb); have n1_ := Aside0.mk (Kd.R_lower (Kd.R_new' ho13 (Kd.R_lt Z114)) (below_size Z115)); have n2_ := Aside0.mk (blk_below (g := gb105) (o := .cells #[.slice Ao9 y102.length co9, .int .i64 1] 25 (0, 0)) (by (with_reducible repeat (first | refine blk_drewN ?_ _ | refine blk_drew ?_ | refine blk_alloc ?_ _)); refine blk_put (cs := #[.slice Ao9 y102.length co9, .int .i64 0]) ?_ 1 _ rfl; (with_reducible repeat (first | refine blk_drewN ?_ _ | refine blk_drew ?_ | refine blk_alloc ?_ _)); refine blk_put (cs := #[.slice none 0 0, .int .i64 0]) ?_ 0 _ rfl; (with_reducible repeat (first | refine blk_drewN ?_ _ | refine blk_drew ?_ | refine blk_alloc ?_ _)); exact BK105.out) hb); have n3_ := Aside0.mk (below_step Z115 hb); clear HO104; clear BK105; clear HB; have HO104 := n0_; have HO108 := n1_; have BK105 := n2_; have HB := n3_; clear n0_ n1_ n2_ n3_; clear hb ho13; obtain ⟨Ao14, co14, eo14⟩ := Kd.R_slice HO108.out; subst eo14) | ((with_reducible refine gate_dst (N := 7) rfl ?_); (try (refine gate_guard (by rfl) ?_; dsimp only)); refine box_event ?hg (N := 7) ?hd (cs := #[.slice none 0 0, .int .i64 0]) (t := 25) ?hr ?_; (case hd => rfl); (case hg => rfl); (case hr => first | (go_simp; done) | (go_simp; rfl)); intro gb109 hg w15 hbox hb; have n0_ := Aside0.mk (Kd.R_below Z113 hb); have n1_ := Aside0.mk (Kd.R_below (by (with_reducible repeat (first | apply Kd.R_alloc | apply Kd.R_drewN | apply Kd.R_drew)); exact HO108.out) hb); have n2_ := Aside0.mk (blk_below (g := gb105) (o := .cells #[.slice Ao9 y102.length co9, .int .i64 1] 25 (0, 0)) Z116 hb); have n3_ := Aside0.mk (below_step Z115 hb); have n4_ := Aside0.mk (hbox); have n5_ := Aside0.mk ((by rw [hg]; exact (below_size Z115) : w.heap.size ≤ gb109)); have n6_ := Aside0.mk ((by rw [hg]; exact (below_size Z115) : w.heap.size ≤ gb109)); have n7_ := Aside0.mk ((by rw [hg]; exact Nat.ne_of_lt (blk_lt (g := gb105) (o := .cells #[.slice Ao9 y102.length co9, .int .i64 1] 25 (0, 0)) Z116) : gb105 ≠ gb109)); have n8_ := Aside0.mk ((by rw [hg]; exact Nat.ne_of_gt (blk_lt (g := gb105) (o := .cells #[.slice Ao9 y102.length co9, .int .i64 1] 25 (0, 0)) Z116) : gb109 ≠ gb105)); clear HO104; clear HO108; clear BK105; clear HB; have HO104 := n0_; have HO108 := n1_; have BK105 := n2_; have HB := n3_; have BK109 := n4_; have GW109 := n5_; have GE109 := n6_; have NB105_109 := n7_; have NB109_105 := n8_; clear n0_ n1_ n2_ n3_ n4_ n5_ n6_ n7_ n8_; clear hb hbox hg; have hnb16 := NB109_105.out; have hnc16 := NB105_109.out; have hcz17_0 : w15.cell? ⟨gb109, 0, none⟩ = some (.slice none 0 0) := (blk_cell BK109.out 0).trans rfl; have hcz17_1 : w15.cell? ⟨gb109, 1, none⟩ = some (.int .i64 0) := (blk_cell BK109.out 1).trans rfl; have hfz17_0 := blk_frozen BK109.out 0; have hfz17_1 := blk_frozen BK109.out 1))
   go_loopg [5, 8] k (fun kq v5 v8 w' => ∃ (x5_1 : List (S25)) (x8_1 : Int) (x106000_1 : List Int) (x106001_1 : Int) (x110000_1 : List Int) (x110001_1 : Int) (u106000 : Value) (u110000 : Value), v8 = .int .i64 x8_1 ∧ Aside0 (ashlarlaw12_WholePoint.l0 kq l0 t101 ji3 x5_1 x8_1 x106000_1 x106001_1 x110000_1 x110001_1 = some r) ∧ Aside0 (kq ≤ k) ∧ Aside0 (Kd.N k25 25 w' w.heap.size (fun k_ => some k_ ≠ (u106000 : Value).ownBlock ∧ some k_ ≠ (u110000 : Value).ownBlock ∧ k_ ≠ gb105 ∧ k_ ≠ gb109) v5 x5_1) ∧ Aside0 (Kd.R (Kd.int .i64) 2 w' w.heap.size (fun k_ => some k_ ≠ (u110000 : Value).ownBlock) u106000 x106000_1) ∧ Aside0 (Kd.R (Kd.int .i64) 2 w' w.heap.size (fun k_ => some k_ ≠ (u106000 : Value).ownBlock) u110000 x110000_1) ∧ Aside0 (w'.heap[gb105]? = some (.cells #[u106000, .int .i64 x106001_1] 25 (0, 0))) ∧ Aside0 (w'.heap[gb109]? = some (.cells #[u110000, .int .i64 x110001_1] 25 (0, 0))) ∧ Aside0 (Below w.heap.size w w'))
   case atStart => exact ⟨(([] : List (S25))), (0), (y102), (1), (y106), (0), (.slice Ao9 y102.length co9), (.slice Ao14 y106.length co14), Z117, H', ⟨Nat.le_refl _⟩, ⟨by first | exact Kd.S_nil _ _ _ _ _ | exact Kd.N_nil _ _ _ _ _ | exact Kd.V_nil _ _ _ _ _ | exact Kd.Q_nil _ _ _ _ _ | exact Kd.R_nil _ _ _ _ _⟩, ⟨by (with_reducible repeat (first | apply Kd.R_alloc | apply Kd.R_drewN | apply Kd.R_drew)); exact Kd.R_mono (Kd.R_far (p := ⟨gb109, 1, none⟩) (Kd.R_far (p := ⟨gb109, 0, none⟩) (Kd.R_types HO104.out BK109.out (by decide)) (fun _ hk => hk.2) (.slice Ao14 y106.length co14)) (fun _ hk => hk.2) (.int .i64 0)) (fun _ hk => hk.1.2)⟩, ⟨by (with_reducible repeat (first | apply Kd.R_alloc | apply Kd.R_drewN | apply Kd.R_drew)); exact Kd.R_mono (Kd.R_far (p := ⟨gb109, 1, none⟩) (Kd.R_far (p := ⟨gb109, 0, none⟩) (Kd.R_types HO108.out BK109.out (by decide)) (fun _ hk => hk.2) (.slice Ao14 y106.length co14)) (fun _ hk => hk.2) (.int .i64 0)) (fun _ hk => hk.1.2)⟩, ⟨by (with_reducible repeat (first | refine blk_drewN ?_ _ | refine blk_drew ?_ | refine blk_alloc ?_ _)); refine blk_far ?_ NB105_109.out _; (with_reducible repeat (first | refine blk_drewN ?_ _ | refine blk_drew ?_ | refine blk_alloc ?_ _)); refine blk_far ?_ NB105_109.out _; (with_reducible repeat (first | refine blk_drewN ?_ _ | refine blk_drew ?_ | refine blk_alloc ?_ _)); exact BK105.out⟩, ⟨by (with_reducible repeat (first | refine blk_drewN ?_ _ | refine blk_drew ?_ | refine blk_alloc ?_ _)); refine blk_put (cs := #[.slice Ao14 y106.length co14, .int .i64 0]) ?_ 1 _ rfl; (with_reducible repeat (first | refine blk_drewN ?_ _ | refine blk_drew ?_ | refine blk_alloc ?_ _)); refine blk_put (cs := #[.slice none 0 0, .int .i64 0]) ?_ 0 _ rfl; (with_reducible repeat (first | refine blk_drewN ?_ _ | refine blk_drew ?_ | refine blk_alloc ?_ _)); exact BK109.out⟩, ⟨by repeat (first | (with_reducible first | exact HB.out | apply below_alloc | apply pw_below_drewN | apply below_drew1 | refine below_set ?_ GE105.out | refine below_set ?_ GE109.out) | exact HB.out)⟩⟩
   case round =>
    clear H'
    try clear c1
    try clear p2
    try clear c4
    try clear c4b0
    try clear c4b1
    try clear c5
    try clear c5b0
    try clear c5b1
    try clear c6
    try clear c16
    try clear hcz11_0
    try clear hcz11_1
    try clear hcz17_0
    try clear hcz17_1
    try clear hfz11_0
    try clear hfz11_1
    try clear hfz17_0
    try clear hfz17_1
    obtain ⟨x5_1, x8_1, x106000_1, x106001_1, x110000_1, x110001_1, u106000, u110000, rfl, HA, HK1, HO_5, HO_106000, HO_110000, BK105, BK109, HB⟩ := hrel
    cases gk with
    | zero => exact absurd HA.out (by simp [ashlarlaw12_WholePoint.l0])
    | succ k1 =>
     have H := HA.out
     clear HA
     simp only [ashlarlaw12_WholePoint.l0] at H
     by_cases c18 : x8_1 < ji3
     ·rw [if_pos c18] at H
      have c18b0 : decide (x8_1 < ji3) = true := decide_eq_true c18
      clear c18
      by_cases c19 : 0 ≤ x8_1
      ·rw [if_pos c19] at H
       have c19b0 : decide (0 ≤ x8_1) = true := decide_eq_true c19
       clear c19
       by_cases c20 : x8_1 < (l0.length : Int)
       ·rw [if_pos c20] at H
        have c20b0 : decide (x8_1 < (l0.length : Int)) = true := decide_eq_true c20
        clear c20
        by_cases c21 : 0 ≤ ji3
        ·rw [if_pos c21] at H
         have c21b0 := eq_true c21
         have c21b1 : decide (0 ≤ ji3) = true := decide_eq_true c21
         clear c21
         by_cases c22 : (ji3 : Int).toNat ≤ 35184372088832
         ·rw [if_pos c22] at H
          have c22b0 := eq_true c22
          have c22b1 : decide ((ji3 : Int).toNat ≤ 35184372088832) = true := decide_eq_true c22
          clear c22
          obtain ⟨y111, hy111⟩ : ∃ y_ : List Int, y_ = (List.replicate (ji3 : Int).toNat 0) := ⟨_, rfl⟩
          replace H : ((some (List.replicate (ji3 : Int).toNat 0 : List Int)).bind fun y115 => (if x8_1 < (y111.length : Int) then (if x8_1 < (y115.length : Int) then ((some (([(⟨(y111.set (x8_1 : Int).toNat 1), wrap64 (-(Int.tmod (rd l0 x8_1) 3))⟩ : S25), (⟨(y115.set (x8_1 : Int).toNat (-1)), Int.tmod (rd l0 x8_1) 3⟩ : S25)] : List (S25)) : List (S25))).bind fun y121 => (if x5_1.length + y121.length < 4398046511104 then (if x8_1 < (x106000_1.length : Int) then (if x8_1 < (x110000_1.length : Int) then (ashlarlaw12_WholePoint.l0 k1 l0 t101 ji3 (x5_1 ++ y121) (wrap64 (x8_1 + 1)) (x106000_1.set (x8_1 : Int).toNat (-1)) (wrap64 (x106001_1 + (Int.tmod (rd l0 x8_1) 3))) (x110000_1.set (x8_1 : Int).toNat 1) (wrap64 (x110001_1 - (Int.tmod (rd l0 x8_1) 3)))) else (none)) else (none)) else (none))) else (none)) else (none))) = some r := by first | (rw [hy111]; with_reducible exact H) | (have H2_ := (Option.bind_some _ _).symm.trans H; rw [hy111]; with_reducible exact H2_) | (have H2_ := (Option.bind_some _ _).symm.trans H; with_reducible exact H2_) | with_reducible exact H | (rw [hy111]; exact H) | exact H
          have Ny111 := Aside0.mk hy111
          clear hy111
          obtain ⟨y115, hy115⟩ : ∃ y_ : List Int, y_ = (List.replicate (ji3 : Int).toNat 0) := ⟨_, rfl⟩
          replace H : (if x8_1 < (y111.length : Int) then (if x8_1 < (y115.length : Int) then ((some (([(⟨(y111.set (x8_1 : Int).toNat 1), wrap64 (-(Int.tmod (rd l0 x8_1) 3))⟩ : S25), (⟨(y115.set (x8_1 : Int).toNat (-1)), Int.tmod (rd l0 x8_1) 3⟩ : S25)] : List (S25)) : List (S25))).bind fun y121 => (if x5_1.length + y121.length < 4398046511104 then (if x8_1 < (x106000_1.length : Int) then (if x8_1 < (x110000_1.length : Int) then (ashlarlaw12_WholePoint.l0 k1 l0 t101 ji3 (x5_1 ++ y121) (wrap64 (x8_1 + 1)) (x106000_1.set (x8_1 : Int).toNat (-1)) (wrap64 (x106001_1 + (Int.tmod (rd l0 x8_1) 3))) (x110000_1.set (x8_1 : Int).toNat 1) (wrap64 (x110001_1 - (Int.tmod (rd l0 x8_1) 3)))) else (none)) else (none)) else (none))) else (none)) else (none)) = some r := by first | (rw [hy115]; with_reducible exact H) | (have H2_ := (Option.bind_some _ _).symm.trans H; rw [hy115]; with_reducible exact H2_) | (have H2_ := (Option.bind_some _ _).symm.trans H; with_reducible exact H2_) | with_reducible exact H | (rw [hy115]; exact H) | exact H
          have Ny115 := Aside0.mk hy115
          clear hy115
          by_cases c23 : x8_1 < (y111.length : Int)
          ·rw [if_pos c23] at H
           have c23b0 : decide (x8_1 < (y111.length : Int)) = true := decide_eq_true c23
           clear c23
           obtain ⟨y119, hy119⟩ : ∃ y_ : List Int, y_ = (y111.set (x8_1 : Int).toNat 1) := ⟨_, rfl⟩
           replace H : (if x8_1 < (y115.length : Int) then ((some (([(⟨y119, wrap64 (-(Int.tmod (rd l0 x8_1) 3))⟩ : S25), (⟨(y115.set (x8_1 : Int).toNat (-1)), Int.tmod (rd l0 x8_1) 3⟩ : S25)] : List (S25)) : List (S25))).bind fun y121 => (if x5_1.length + y121.length < 4398046511104 then (if x8_1 < (x106000_1.length : Int) then (if x8_1 < (x110000_1.length : Int) then (ashlarlaw12_WholePoint.l0 k1 l0 t101 ji3 (x5_1 ++ y121) (wrap64 (x8_1 + 1)) (x106000_1.set (x8_1 : Int).toNat (-1)) (wrap64 (x106001_1 + (Int.tmod (rd l0 x8_1) 3))) (x110000_1.set (x8_1 : Int).toNat 1) (wrap64 (x110001_1 - (Int.tmod (rd l0 x8_1) 3)))) else (none)) else (none)) else (none))) else (none)) = some r := by first | (rw [hy119]; with_reducible exact H) | (have H2_ := (Option.bind_some _ _).symm.trans H; rw [hy119]; with_reducible exact H2_) | (have H2_ := (Option.bind_some _ _).symm.trans H; with_reducible exact H2_) | with_reducible exact H | (rw [hy119]; exact H) | exact H
           have Ny119 := Aside0.mk hy119
           clear hy119
           by_cases c25 : x8_1 < (y115.length : Int)
           ·rw [if_pos c25] at H
            have c25b0 : decide (x8_1 < (y115.length : Int)) = true := decide_eq_true c25
            clear c25
            obtain ⟨y120, hy120⟩ : ∃ y_ : List Int, y_ = (y115.set (x8_1 : Int).toNat (-1)) := ⟨_, rfl⟩
            replace H : ((some (([(⟨y119, wrap64 (-(Int.tmod (rd l0 x8_1) 3))⟩ : S25), (⟨y120, Int.tmod (rd l0 x8_1) 3⟩ : S25)] : List (S25)) : List (S25))).bind fun y121 => (if x5_1.length + y121.length < 4398046511104 then (if x8_1 < (x106000_1.length : Int) then (if x8_1 < (x110000_1.length : Int) then (ashlarlaw12_WholePoint.l0 k1 l0 t101 ji3 (x5_1 ++ y121) (wrap64 (x8_1 + 1)) (x106000_1.set (x8_1 : Int).toNat (-1)) (wrap64 (x106001_1 + (Int.tmod (rd l0 x8_1) 3))) (x110000_1.set (x8_1 : Int).toNat 1) (wrap64 (x110001_1 - (Int.tmod (rd l0 x8_1) 3)))) else (none)) else (none)) else (none))) = some r := by first | (rw [hy120]; with_reducible exact H) | (have H2_ := (Option.bind_some _ _).symm.trans H; rw [hy120]; with_reducible exact H2_) | (have H2_ := (Option.bind_some _ _).symm.trans H; with_reducible exact H2_) | with_reducible exact H | (rw [hy120]; exact H) | exact H
            have Ny120 := Aside0.mk hy120
            clear hy120
            obtain ⟨y121, hy121⟩ : ∃ y_ : List (S25), y_ = (([(⟨y119, wrap64 (-(Int.tmod (rd l0 x8_1) 3))⟩ : S25), (⟨y120, Int.tmod (rd l0 x8_1) 3⟩ : S25)] : List (S25))) := ⟨_, rfl⟩
            replace H : (if x5_1.length + y121.length < 4398046511104 then (if x8_1 < (x106000_1.length : Int) then (if x8_1 < (x110000_1.length : Int) then (ashlarlaw12_WholePoint.l0 k1 l0 t101 ji3 (x5_1 ++ y121) (wrap64 (x8_1 + 1)) (x106000_1.set (x8_1 : Int).toNat (-1)) (wrap64 (x106001_1 + (Int.tmod (rd l0 x8_1) 3))) (x110000_1.set (x8_1 : Int).toNat 1) (wrap64 (x110001_1 - (Int.tmod (rd l0 x8_1) 3)))) else (none)) else (none)) else (none)) = some r := by first | (rw [hy121]; with_reducible exact H) | (have H2_ := (Option.bind_some _ _).symm.trans H; rw [hy121]; with_reducible exact H2_) | (have H2_ := (Option.bind_some _ _).symm.trans H; with_reducible exact H2_) | with_reducible exact H | (rw [hy121]; exact H) | exact H
            have Ny121 := Aside0.mk hy121
            clear hy121
            by_cases c27 : x5_1.length + y121.length < 4398046511104
            ·rw [if_pos c27] at H
             have LMc27 := Aside0.mk c27
             clear c27
             obtain ⟨y124, hy124⟩ : ∃ y_ : List (S25), y_ = (x5_1 ++ y121) := ⟨_, rfl⟩
             replace H : (if x8_1 < (x106000_1.length : Int) then (if x8_1 < (x110000_1.length : Int) then (ashlarlaw12_WholePoint.l0 k1 l0 t101 ji3 y124 (wrap64 (x8_1 + 1)) (x106000_1.set (x8_1 : Int).toNat (-1)) (wrap64 (x106001_1 + (Int.tmod (rd l0 x8_1) 3))) (x110000_1.set (x8_1 : Int).toNat 1) (wrap64 (x110001_1 - (Int.tmod (rd l0 x8_1) 3)))) else (none)) else (none)) = some r := by first | (rw [hy124]; with_reducible exact H) | (have H2_ := (Option.bind_some _ _).symm.trans H; rw [hy124]; with_reducible exact H2_) | (have H2_ := (Option.bind_some _ _).symm.trans H; with_reducible exact H2_) | with_reducible exact H | (rw [hy124]; exact H) | exact H
             have Ny124 := Aside0.mk hy124
             clear hy124
             by_cases c28 : x8_1 < (x106000_1.length : Int)
             ·rw [if_pos c28] at H
              have c28b0 : decide (x8_1 < (x106000_1.length : Int)) = true := decide_eq_true c28
              clear c28
              obtain ⟨y127, hy127⟩ : ∃ y_ : List Int, y_ = (x106000_1.set (x8_1 : Int).toNat (-1)) := ⟨_, rfl⟩
              replace H : (if x8_1 < (x110000_1.length : Int) then (ashlarlaw12_WholePoint.l0 k1 l0 t101 ji3 y124 (wrap64 (x8_1 + 1)) y127 (wrap64 (x106001_1 + (Int.tmod (rd l0 x8_1) 3))) (x110000_1.set (x8_1 : Int).toNat 1) (wrap64 (x110001_1 - (Int.tmod (rd l0 x8_1) 3)))) else (none)) = some r := by first | (rw [hy127]; with_reducible exact H) | (have H2_ := (Option.bind_some _ _).symm.trans H; rw [hy127]; with_reducible exact H2_) | (have H2_ := (Option.bind_some _ _).symm.trans H; with_reducible exact H2_) | with_reducible exact H | (rw [hy127]; exact H) | exact H
              have Ny127 := Aside0.mk hy127
              clear hy127
              by_cases c30 : x8_1 < (x110000_1.length : Int)
              ·rw [if_pos c30] at H
               have c30b0 : decide (x8_1 < (x110000_1.length : Int)) = true := decide_eq_true c30
               clear c30
               obtain ⟨y128, hy128⟩ : ∃ y_ : List Int, y_ = (x110000_1.set (x8_1 : Int).toNat 1) := ⟨_, rfl⟩
               replace H : (ashlarlaw12_WholePoint.l0 k1 l0 t101 ji3 y124 (wrap64 (x8_1 + 1)) y127 (wrap64 (x106001_1 + (Int.tmod (rd l0 x8_1) 3))) y128 (wrap64 (x110001_1 - (Int.tmod (rd l0 x8_1) 3)))) = some r := by first | (rw [hy128]; with_reducible exact H) | (have H2_ := (Option.bind_some _ _).symm.trans H; rw [hy128]; with_reducible exact H2_) | (have H2_ := (Option.bind_some _ _).symm.trans H; with_reducible exact H2_) | with_reducible exact H | (rw [hy128]; exact H) | exact H
               have Ny128 := Aside0.mk hy128
               clear hy128
               have H' := Aside0.mk H
               clear H
               have p110 : 0 ≤ (x8_1 : Int) := of_decide_eq_true Z112
               have q110 : x8_1 < (l0.length : Int) := of_decide_eq_true Z112
               obtain ⟨ad110, e110, hx110_0⟩ := Kd.at_int HR0.out x8_1 p110 q110
               cases e110
               replace hx110_0 := (HB.out.cell (World.block_lt_of_cell? w _ hx110_0)).trans hx110_0
               replace p110 := eq_true p110
               replace q110 := eq_true q110
               go_wp2_with (first | ((with_reducible refine gate_dst (N := 40) rfl ?_); (try (refine gate_guard (by rfl) ?_; dsimp only)); refine Kd.R_make (Kd.int .i64) _ 2 rfl (N := 40) rfl 23 _ _ rfl ji3 rfl rfl Try.underlying23 (.int .i64 0) 8 info2 rfl (by decide) (by omega) 0 (ok := fun _ => True) (okp := fun _ => True) rfl (fun _ hk => hk) trivial (of_decide_eq_true Z112) (Nat.le_trans (Nat.mul_le_mul_right _ (of_decide_eq_true Z112 : ji3.toNat ≤ 35184372088832)) (by omega)) (Below.refl _ _) (Nat.le_refl _) ?_; intro v112 w32 ho33 hb hg_ hnew_; clear hg_ hnew_; (first | rw [← Ny111.out] at ho33 | (simp only [Int.reduceToNat] at ho33; rw [← Ny111.out] at ho33)); have n0_ := Aside0.mk (Kd.N_elder' Z118 (Kd.R_base ho33) hb); have n1_ := Aside0.mk (Kd.R_elder' Z119 (Kd.R_base ho33) hb); have n2_ := Aside0.mk (Kd.R_elder' Z11a (Kd.R_base ho33) hb); have n3_ := Aside0.mk (Kd.R_lower (Kd.R_new' (Kd.R_new' ho33 (Kd.R_lt Z119)) (Kd.R_lt Z11a)) (below_size Z11b)); have n4_ := Aside0.mk (blk_below (g := gb105) (o := .cells #[u106000, .int .i64 x106001_1] 25 (0, 0)) Z116 hb); have n5_ := Aside0.mk (blk_below (g := gb109) (o := .cells #[u110000, .int .i64 x110001_1] 25 (0, 0)) Z11c hb); have n6_ := Aside0.mk (below_step Z11b hb); clear HO_5; clear HO_106000; clear HO_110000; clear BK105; clear BK109; clear HB; have HO_5 := n0_; have HO_106000 := n1_; have HO_110000 := n2_; have HO113 := n3_; have BK105 := n4_; have BK109 := n5_; have HB := n6_; clear n0_ n1_ n2_ n3_ n4_ n5_ n6_; clear hb ho33; obtain ⟨Ao34, co34, eo34⟩ := Kd.R_slice HO113.out; subst eo34) | ((with_reducible refine gate_dst (N := 10) rfl ?_); (try (refine gate_guard (by rfl) ?_; dsimp only)); refine box_event ?hg (N := 10) ?hd (cs := #[.slice none 0 0, .int .i64 0]) (t := 25) ?hr ?_; (case hd => rfl); (case hg => rfl); (case hr => first | (go_simp; done) | (go_simp; rfl)); intro gb114 hg w35 hbox hb; have n0_ := Aside0.mk (Kd.N_below (Kd.N_elderB Z118 gb114 (Nat.le_of_eq hg.symm)) hb); have n1_ := Aside0.mk (Kd.R_below Z119 hb); have n2_ := Aside0.mk (Kd.R_below Z11a hb); have n3_ := Aside0.mk (Kd.R_below Z11d hb); have n4_ := Aside0.mk (blk_below (g := gb105) (o := .cells #[u106000, .int .i64 x106001_1] 25 (0, 0)) Z116 hb); have n5_ := Aside0.mk (blk_below (g := gb109) (o := .cells #[u110000, .int .i64 x110001_1] 25 (0, 0)) Z11c hb); have n6_ := Aside0.mk (below_step Z11b hb); have n7_ := Aside0.mk (hbox); have n8_ := Aside0.mk ((by rw [hg]; exact (below_size Z11b) : w.heap.size ≤ gb114)); have n9_ := Aside0.mk ((by rw [hg]; exact (below_size Z11b) : w.heap.size ≤ gb114)); have n10_ := Aside0.mk ((by rw [hg]; exact Nat.ne_of_lt (blk_lt (g := gb105) (o := .cells #[u106000, .int .i64 x106001_1] 25 (0, 0)) Z116) : gb105 ≠ gb114)); have n11_ := Aside0.mk ((by rw [hg]; exact Nat.ne_of_gt (blk_lt (g := gb105) (o := .cells #[u106000, .int .i64 x106001_1] 25 (0, 0)) Z116) : gb114 ≠ gb105)); have n12_ := Aside0.mk ((by rw [hg]; exact Nat.ne_of_lt (blk_lt (g := gb109) (o := .cells #[u110000, .int .i64 x110001_1] 25 (0, 0)) Z11c) : gb109 ≠ gb114)); have n13_ := Aside0.mk ((by rw [hg]; exact Nat.ne_of_gt (blk_lt (g := gb109) (o := .cells #[u110000, .int .i64 x110001_1] 25 (0, 0)) Z11c) : gb114 ≠ gb109)); clear HO_5; clear HO_106000; clear HO_110000; clear HO113; clear BK105; clear BK109; clear HB; have HO_5 := n0_; have HO_106000 := n1_; have HO_110000 := n2_; have HO113 := n3_; have BK105 := n4_; have BK109 := n5_; have HB := n6_; have BK114 := n7_; have GW114 := n8_; have GE114 := n9_; have NB105_114 := n10_; have NB114_105 := n11_; have NB109_114 := n12_; have NB114_109 := n13_; clear n0_ n1_ n2_ n3_ n4_ n5_ n6_ n7_ n8_ n9_ n10_ n11_ n12_ n13_; clear hb hbox hg; have hnb36 := NB114_105.out; have hnc36 := NB105_114.out; have hnb37 := NB114_109.out; have hnc37 := NB109_114.out; have hcz38_0 : w35.cell? ⟨gb114, 0, none⟩ = some (.slice none 0 0) := (blk_cell BK114.out 0).trans rfl; have hcz38_1 : w35.cell? ⟨gb114, 1, none⟩ = some (.int .i64 0) := (blk_cell BK114.out 1).trans rfl; have hfz38_0 := blk_frozen BK114.out 0; have hfz38_1 := blk_frozen BK114.out 1) | ((with_reducible refine gate_dst (N := 45) rfl ?_); (try (refine gate_guard (by rfl) ?_; dsimp only)); refine Kd.R_make (Kd.int .i64) _ 2 rfl (N := 45) rfl 23 _ _ rfl ji3 rfl rfl Try.underlying23 (.int .i64 0) 8 info2 rfl (by decide) (by omega) 0 (ok := fun _ => True) (okp := fun _ => True) rfl (fun _ hk => hk) trivial (of_decide_eq_true Z112) (Nat.le_trans (Nat.mul_le_mul_right _ (of_decide_eq_true Z112 : ji3.toNat ≤ 35184372088832)) (by omega)) (Below.refl _ _) (Nat.le_refl _) ?_; intro v116 w39 ho40 hb hg_ hnew_; clear hg_ hnew_; (first | rw [← Ny115.out] at ho40 | (simp only [Int.reduceToNat] at ho40; rw [← Ny115.out] at ho40)); have n0_ := Aside0.mk (Kd.N_elder' (by (with_reducible repeat (first | apply Kd.N_alloc | apply Kd.N_drewN | apply Kd.N_drew)); exact (Kd.N_mono (Kd.N_far (p := ⟨gb114, 1, none⟩) (Kd.N_far (p := ⟨gb114, 0, none⟩) (Kd.N_mono HO_5.out (fun k_ hk => (⟨hk, hk.2⟩ : _ ∧ k_ ≠ gb114))) (fun _ hk => hk.2) (.slice Ao34 y111.length co34)) (fun _ hk => hk.2) (.int .i64 (wrap64 (-(Int.tmod (rd l0 x8_1) 3))))) (fun _ h_ => h_.1))) (Kd.R_base ho40) hb); have n1_ := Aside0.mk (Kd.R_elder' Z11e (Kd.R_base ho40) hb); have n2_ := Aside0.mk (Kd.R_elder' Z11f (Kd.R_base ho40) hb); have n3_ := Aside0.mk (Kd.R_elder' Z11g (Kd.R_base ho40) hb); have n4_ := Aside0.mk (Kd.R_lower (Kd.R_new' (Kd.R_new' (Kd.R_new' ho40 (Kd.R_lt Z11e)) (Kd.R_lt Z11f)) (Kd.R_lt Z11g)) (below_size Z11h)); have n5_ := Aside0.mk (blk_below (g := gb105) (o := .cells #[u106000, .int .i64 x106001_1] 25 (0, 0)) (by (with_reducible repeat (first | refine blk_drewN ?_ _ | refine blk_drew ?_ | refine blk_alloc ?_ _)); refine blk_far ?_ NB105_114.out _; (with_reducible repeat (first | refine blk_drewN ?_ _ | refine blk_drew ?_ | refine blk_alloc ?_ _)); refine blk_far ?_ NB105_114.out _; (with_reducible repeat (first | refine blk_drewN ?_ _ | refine blk_drew ?_ | refine blk_alloc ?_ _)); exact BK105.out) hb); have n6_ := Aside0.mk (blk_below (g := gb109) (o := .cells #[u110000, .int .i64 x110001_1] 25 (0, 0)) (by (with_reducible repeat (first | refine blk_drewN ?_ _ | refine blk_drew ?_ | refine blk_alloc ?_ _)); refine blk_far ?_ NB109_114.out _; (with_reducible repeat (first | refine blk_drewN ?_ _ | refine blk_drew ?_ | refine blk_alloc ?_ _)); refine blk_far ?_ NB109_114.out _; (with_reducible repeat (first | refine blk_drewN ?_ _ | refine blk_drew ?_ | refine blk_alloc ?_ _)); exact BK109.out) hb); have n7_ := Aside0.mk (blk_below (g := gb114) (o := .cells #[.slice Ao34 y111.length co34, .int .i64 (wrap64 (-(Int.tmod (rd l0 x8_1) 3)))] 25 (0, 0)) (by (with_reducible repeat (first | refine blk_drewN ?_ _ | refine blk_drew ?_ | refine blk_alloc ?_ _)); refine blk_put (cs := #[.slice Ao34 y111.length co34, .int .i64 0]) ?_ 1 _ rfl; (with_reducible repeat (first | refine blk_drewN ?_ _ | refine blk_drew ?_ | refine blk_alloc ?_ _)); refine blk_put (cs := #[.slice none 0 0, .int .i64 0]) ?_ 0 _ rfl; (with_reducible repeat (first | refine blk_drewN ?_ _ | refine blk_drew ?_ | refine blk_alloc ?_ _)); exact BK114.out) hb); have n8_ := Aside0.mk (below_step Z11h hb); clear HO_5; clear HO_106000; clear HO_110000; clear HO113; clear BK105; clear BK109; clear BK114; clear HB; have HO_5 := n0_; have HO_106000 := n1_; have HO_110000 := n2_; have HO113 := n3_; have HO117 := n4_; have BK105 := n5_; have BK109 := n6_; have BK114 := n7_; have HB := n8_; clear n0_ n1_ n2_ n3_ n4_ n5_ n6_ n7_ n8_; clear hb ho40; obtain ⟨Ao41, co41, eo41⟩ := Kd.R_slice HO117.out; subst eo41) | ((with_reducible refine gate_dst (N := 11) rfl ?_); (try (refine gate_guard (by rfl) ?_; dsimp only)); refine box_event ?hg (N := 11) ?hd (cs := #[.slice none 0 0, .int .i64 0]) (t := 25) ?hr ?_; (case hd => rfl); (case hg => rfl); (case hr => first | (go_simp; done) | (go_simp; rfl)); intro gb118 hg w42 hbox hb; have n0_ := Aside0.mk (Kd.N_below (Kd.N_elderB Z118 gb118 (Nat.le_of_eq hg.symm)) hb); have n1_ := Aside0.mk (Kd.R_below Z119 hb); have n2_ := Aside0.mk (Kd.R_below Z11a hb); have n3_ := Aside0.mk (Kd.R_below Z11d hb); have n4_ := Aside0.mk (Kd.R_below (by (with_reducible repeat (first | apply Kd.R_alloc | apply Kd.R_drewN | apply Kd.R_drew)); exact HO117.out) hb); have n5_ := Aside0.mk (blk_below (g := gb105) (o := .cells #[u106000, .int .i64 x106001_1] 25 (0, 0)) Z116 hb); have n6_ := Aside0.mk (blk_below (g := gb109) (o := .cells #[u110000, .int .i64 x110001_1] 25 (0, 0)) Z11c hb); have n7_ := Aside0.mk (blk_below (g := gb114) (o := .cells #[.slice Ao34 y111.length co34, .int .i64 (wrap64 (-(Int.tmod (rd l0 x8_1) 3)))] 25 (0, 0)) Z11i hb); have n8_ := Aside0.mk (below_step Z11h hb); have n9_ := Aside0.mk (hbox); have n10_ := Aside0.mk ((by rw [hg]; exact (below_size Z11h) : w.heap.size ≤ gb118)); have n11_ := Aside0.mk ((by rw [hg]; exact (below_size Z11h) : w.heap.size ≤ gb118)); have n12_ := Aside0.mk ((by rw [hg]; exact Nat.ne_of_lt (blk_lt (g := gb105) (o := .cells #[u106000, .int .i64 x106001_1] 25 (0, 0)) Z116) : gb105 ≠ gb118)); have n13_ := Aside0.mk ((by rw [hg]; exact Nat.ne_of_gt (blk_lt (g := gb105) (o := .cells #[u106000, .int .i64 x106001_1] 25 (0, 0)) Z116) : gb118 ≠ gb105)); have n14_ := Aside0.mk ((by rw [hg]; exact Nat.ne_of_lt (blk_lt (g := gb109) (o := .cells #[u110000, .int .i64 x110001_1] 25 (0, 0)) Z11c) : gb109 ≠ gb118)); have n15_ := Aside0.mk ((by rw [hg]; exact Nat.ne_of_gt (blk_lt (g := gb109) (o := .cells #[u110000, .int .i64 x110001_1] 25 (0, 0)) Z11c) : gb118 ≠ gb109)); have n16_ := Aside0.mk ((by rw [hg]; exact Nat.ne_of_lt (blk_lt (g := gb114) (o := .cells #[.slice Ao34 y111.length co34, .int .i64 (wrap64 (-(Int.tmod (rd l0 x8_1) 3)))] 25 (0, 0)) Z11i) : gb114 ≠ gb118)); have n17_ := Aside0.mk ((by rw [hg]; exact Nat.ne_of_gt (blk_lt (g := gb114) (o := .cells #[.slice Ao34 y111.length co34, .int .i64 (wrap64 (-(Int.tmod (rd l0 x8_1) 3)))] 25 (0, 0)) Z11i) : gb118 ≠ gb114)); clear HO_5; clear HO_106000; clear HO_110000; clear HO113; clear HO117; clear BK105; clear BK109; clear BK114; clear HB; have HO_5 := n0_; have HO_106000 := n1_; have HO_110000 := n2_; have HO113 := n3_; have HO117 := n4_; have BK105 := n5_; have BK109 := n6_; have BK114 := n7_; have HB := n8_; have BK118 := n9_; have GW118 := n10_; have GE118 := n11_; have NB105_118 := n12_; have NB118_105 := n13_; have NB109_118 := n14_; have NB118_109 := n15_; have NB114_118 := n16_; have NB118_114 := n17_; clear n0_ n1_ n2_ n3_ n4_ n5_ n6_ n7_ n8_ n9_ n10_ n11_ n12_ n13_ n14_ n15_ n16_ n17_; clear hb hbox hg; have hnb43 := NB118_105.out; have hnc43 := NB105_118.out; have hnb44 := NB118_109.out; have hnc44 := NB109_118.out; have hnb45 := NB118_114.out; have hnc45 := NB114_118.out; have hcz46_0 : w42.cell? ⟨gb118, 0, none⟩ = some (.slice none 0 0) := (blk_cell BK118.out 0).trans rfl; have hcz46_1 : w42.cell? ⟨gb118, 1, none⟩ = some (.int .i64 0) := (blk_cell BK118.out 1).trans rfl; have hfz46_0 := blk_frozen BK118.out 0; have hfz46_1 := blk_frozen BK118.out 1) | ((with_reducible refine gate_store (t := 25) (p := 11) rfl ?_); refine store_event (t := 25) (p := 11) (v := ?vo_w47) (w1 := ((w42.setCell ⟨gb118, 0, none⟩ (.slice Ao41 y115.length co41)).setCell ⟨gb118, 1, none⟩ (.int .i64 (Int.tmod (rd l0 x8_1) 3)))) ?hg ?ho ?hn ?hr ?_; (case ho => rfl); (case hg => rfl); (case hn => rfl); (case hr => first | (go_simp; done) | (go_simp; rfl)); intro w47 hw; have n0_ : Aside0 (Kd.N k25 25 w47 w.heap.size (fun k_ => some k_ ≠ (u106000 : Value).ownBlock ∧ some k_ ≠ (u110000 : Value).ownBlock ∧ some k_ ≠ (.slice Ao34 y111.length co34 : Value).ownBlock ∧ some k_ ≠ (.slice Ao41 y115.length co41 : Value).ownBlock ∧ k_ ≠ gb105 ∧ k_ ≠ gb109 ∧ k_ ≠ gb114 ∧ k_ ≠ gb118) u5 x5_1) := ⟨(by rw [hw]; exact (by (with_reducible repeat (first | apply Kd.N_alloc | apply Kd.N_drewN | apply Kd.N_drew)); exact Kd.N_mono (Kd.N_far (p := ⟨gb118, 1, none⟩) (Kd.N_far (p := ⟨gb118, 0, none⟩) (Kd.N_mono HO_5.out (fun k_ hk => (⟨hk, hk.2⟩ : _ ∧ k_ ≠ gb118))) (fun _ hk => hk.2) (.slice Ao41 y115.length co41)) (fun _ hk => hk.2) (.int .i64 (Int.tmod (rd l0 x8_1) 3))) (fun _ hk => ⟨hk.1.1.1.1.1.1, ⟨hk.1.1.1.1.1.2.1, ⟨hk.1.1.1.1.2, ⟨hk.1.1.2, ⟨hk.1.1.1.1.1.2.2.1, ⟨hk.1.1.1.1.1.2.2.2, ⟨hk.1.1.1.2, hk.1.2⟩⟩⟩⟩⟩⟩⟩)))⟩; have n1_ : Aside0 (Kd.R (Kd.int .i64) 2 w47 w.heap.size (fun k_ => some k_ ≠ (u110000 : Value).ownBlock ∧ some k_ ≠ (.slice Ao34 y111.length co34 : Value).ownBlock ∧ some k_ ≠ (.slice Ao41 y115.length co41 : Value).ownBlock) u106000 x106000_1) := ⟨(by rw [hw]; exact (by (with_reducible repeat (first | apply Kd.R_alloc | apply Kd.R_drewN | apply Kd.R_drew)); exact Kd.R_mono (Kd.R_far (p := ⟨gb118, 1, none⟩) (Kd.R_far (p := ⟨gb118, 0, none⟩) (Kd.R_types HO_106000.out BK118.out (by decide)) (fun _ hk => hk.2) (.slice Ao41 y115.length co41)) (fun _ hk => hk.2) (.int .i64 (Int.tmod (rd l0 x8_1) 3))) (fun _ hk => ⟨hk.1.1.1, ⟨hk.1.1.2, hk.1.2⟩⟩)))⟩; have n2_ : Aside0 (Kd.R (Kd.int .i64) 2 w47 w.heap.size (fun k_ => some k_ ≠ (u106000 : Value).ownBlock ∧ some k_ ≠ (.slice Ao34 y111.length co34 : Value).ownBlock ∧ some k_ ≠ (.slice Ao41 y115.length co41 : Value).ownBlock) u110000 x110000_1) := ⟨(by rw [hw]; exact (by (with_reducible repeat (first | apply Kd.R_alloc | apply Kd.R_drewN | apply Kd.R_drew)); exact Kd.R_mono (Kd.R_far (p := ⟨gb118, 1, none⟩) (Kd.R_far (p := ⟨gb118, 0, none⟩) (Kd.R_types HO_110000.out BK118.out (by decide)) (fun _ hk => hk.2) (.slice Ao41 y115.length co41)) (fun _ hk => hk.2) (.int .i64 (Int.tmod (rd l0 x8_1) 3))) (fun _ hk => ⟨hk.1.1.1, ⟨hk.1.1.2, hk.1.2⟩⟩)))⟩; have n3_ : Aside0 (Kd.R (Kd.int .i64) 2 w47 w.heap.size (fun k_ => some k_ ≠ (u106000 : Value).ownBlock ∧ some k_ ≠ (u110000 : Value).ownBlock ∧ some k_ ≠ (.slice Ao41 y115.length co41 : Value).ownBlock) (.slice Ao34 y111.length co34) y111) := ⟨(by rw [hw]; exact (by (with_reducible repeat (first | apply Kd.R_alloc | apply Kd.R_drewN | apply Kd.R_drew)); exact Kd.R_mono (Kd.R_far (p := ⟨gb118, 1, none⟩) (Kd.R_far (p := ⟨gb118, 0, none⟩) (Kd.R_types HO113.out BK118.out (by decide)) (fun _ hk => hk.2) (.slice Ao41 y115.length co41)) (fun _ hk => hk.2) (.int .i64 (Int.tmod (rd l0 x8_1) 3))) (fun _ hk => ⟨hk.1.1.1.2, ⟨hk.1.1.2, hk.1.2⟩⟩)))⟩; have n4_ : Aside0 (Kd.R (Kd.int .i64) 2 w47 w.heap.size (fun k_ => some k_ ≠ (u106000 : Value).ownBlock ∧ some k_ ≠ (u110000 : Value).ownBlock ∧ some k_ ≠ (.slice Ao34 y111.length co34 : Value).ownBlock) (.slice Ao41 y115.length co41) y115) := ⟨(by rw [hw]; exact (by (with_reducible repeat (first | apply Kd.R_alloc | apply Kd.R_drewN | apply Kd.R_drew)); exact Kd.R_mono (Kd.R_far (p := ⟨gb118, 1, none⟩) (Kd.R_far (p := ⟨gb118, 0, none⟩) (Kd.R_types HO117.out BK118.out (by decide)) (fun _ hk => hk.2) (.slice Ao41 y115.length co41)) (fun _ hk => hk.2) (.int .i64 (Int.tmod (rd l0 x8_1) 3))) (fun _ hk => ⟨hk.1.1.1.2, ⟨hk.1.1.2, hk.1.2⟩⟩)))⟩; have n5_ : Aside0 (w47.heap[gb105]? = some (.cells #[u106000, .int .i64 x106001_1] 25 (0, 0))) := ⟨(by rw [hw]; exact (by (with_reducible repeat (first | refine blk_drewN ?_ _ | refine blk_drew ?_ | refine blk_alloc ?_ _)); refine blk_far ?_ NB105_118.out _; (with_reducible repeat (first | refine blk_drewN ?_ _ | refine blk_drew ?_ | refine blk_alloc ?_ _)); refine blk_far ?_ NB105_118.out _; (with_reducible repeat (first | refine blk_drewN ?_ _ | refine blk_drew ?_ | refine blk_alloc ?_ _)); exact BK105.out))⟩; have n6_ : Aside0 (w47.heap[gb109]? = some (.cells #[u110000, .int .i64 x110001_1] 25 (0, 0))) := ⟨(by rw [hw]; exact (by (with_reducible repeat (first | refine blk_drewN ?_ _ | refine blk_drew ?_ | refine blk_alloc ?_ _)); refine blk_far ?_ NB109_118.out _; (with_reducible repeat (first | refine blk_drewN ?_ _ | refine blk_drew ?_ | refine blk_alloc ?_ _)); refine blk_far ?_ NB109_118.out _; (with_reducible repeat (first | refine blk_drewN ?_ _ | refine blk_drew ?_ | refine blk_alloc ?_ _)); exact BK109.out))⟩; have n7_ : Aside0 (w47.heap[gb114]? = some (.cells #[.slice Ao34 y111.length co34, .int .i64 (wrap64 (-(Int.tmod (rd l0 x8_1) 3)))] 25 (0, 0))) := ⟨(by rw [hw]; exact (by (with_reducible repeat (first | refine blk_drewN ?_ _ | refine blk_drew ?_ | refine blk_alloc ?_ _)); refine blk_far ?_ NB114_118.out _; (with_reducible repeat (first | refine blk_drewN ?_ _ | refine blk_drew ?_ | refine blk_alloc ?_ _)); refine blk_far ?_ NB114_118.out _; (with_reducible repeat (first | refine blk_drewN ?_ _ | refine blk_drew ?_ | refine blk_alloc ?_ _)); exact BK114.out))⟩; have n8_ : Aside0 (w47.heap[gb118]? = some (.cells #[.slice Ao41 y115.length co41, .int .i64 (Int.tmod (rd l0 x8_1) 3)] 25 (0, 0))) := ⟨(by rw [hw]; exact (by (with_reducible repeat (first | refine blk_drewN ?_ _ | refine blk_drew ?_ | refine blk_alloc ?_ _)); refine blk_put (cs := #[.slice Ao41 y115.length co41, .int .i64 0]) ?_ 1 _ rfl; (with_reducible repeat (first | refine blk_drewN ?_ _ | refine blk_drew ?_ | refine blk_alloc ?_ _)); refine blk_put (cs := #[.slice none 0 0, .int .i64 0]) ?_ 0 _ rfl; (with_reducible repeat (first | refine blk_drewN ?_ _ | refine blk_drew ?_ | refine blk_alloc ?_ _)); exact BK118.out))⟩; have n9_ : Aside0 (Below w.heap.size w w47) := ⟨(by rw [hw]; exact Z11j)⟩; clear hw; clear HO_5; clear HO_106000; clear HO_110000; clear HO113; clear HO117; clear BK105; clear BK109; clear BK114; clear BK118; clear HB; have HO_5 := n0_; have HO_106000 := n1_; have HO_110000 := n2_; have HO113 := n3_; have HO117 := n4_; have BK105 := n5_; have BK109 := n6_; have BK114 := n7_; have BK118 := n8_; have HB := n9_; clear n0_ n1_ n2_ n3_ n4_ n5_ n6_ n7_ n8_ n9_; have hcz48_0 : w47.cell? ⟨gb114, 0, none⟩ = some (.slice Ao34 y111.length co34) := (blk_cell BK114.out 0).trans rfl; have hcz48_1 : w47.cell? ⟨gb114, 1, none⟩ = some (.int .i64 (wrap64 (-(Int.tmod (rd l0 x8_1) 3)))) := (blk_cell BK114.out 1).trans rfl; have hfz48_0 := blk_frozen BK114.out 0; have hfz48_1 := blk_frozen BK114.out 1; have p24 : 0 ≤ (x8_1 : Int) := of_decide_eq_true Z112; have q24 : (x8_1 : Int) < ((y111.length : Int) : Int) := of_decide_eq_true Z112; obtain ⟨go24, co24, eo24, gb24, gl24, cl24, HG24⟩ := Kd.R_form HO113.out (by omega); (first | cases eo24 | (injection eo24 with ea_ en_ ec_; (first | subst ea_ | (injection ea_ with ea_; subst ea_)); subst ec_; clear en_)); have GB24 := Aside0.mk gb24; have GG24 := Aside0.mk HG24; clear gb24 gl24 HG24; obtain ⟨hx24_0, hf24_0⟩ := Kd.R_celln 0 HO113.out (x8_1 : Int) p24 q24; replace p24 := eq_true p24; replace q24 := eq_true q24; obtain ⟨hy49_, hz49_⟩ := Kd.R_celln 0 HO113.out (x8_1 : Int) (of_decide_eq_true Z112) (of_decide_eq_true Z112); have HP49 := Kd.R_putg HO113.out (x8_1 : Int) 1) | ((with_reducible refine gate_store (t := 2) (p := 51) rfl ?_); refine store_event (t := 2) (p := 51) (v := ?vo_w50) (w1 := (w47.setCell ⟨go24, (x8_1 : Int).toNat, none⟩ (.int .i64 1))) ?hg ?ho ?hn ?hr ?_; (case ho => rfl); (case hg => rfl); (case hn => rfl); (case hr => first | (go_simp; done) | (go_simp; rfl)); intro w50 hw; have hg : w47.grownBy w50 (some go24) := (by rw [hw]; exact HP49.2); have hp_ : Kd.R (Kd.int .i64) 2 w50 w.heap.size (fun k_ => some k_ ≠ (u106000 : Value).ownBlock ∧ some k_ ≠ (u110000 : Value).ownBlock ∧ some k_ ≠ (.slice Ao41 y115.length co41 : Value).ownBlock) (.slice (some ⟨go24, 0, none⟩) y111.length co34) y119 := (by rw [hw, Ny119.out]; exact HP49.1); clear HP49; have n0_ := Aside0.mk (Kd.N_afterv (v := (.slice (some ⟨go24, 0, none⟩) y111.length co34)) (v1 := (.slice (some ⟨go24, 0, none⟩) y111.length co34)) (ok := (fun k_ => some k_ ≠ (u106000 : Value).ownBlock ∧ some k_ ≠ (u110000 : Value).ownBlock ∧ some k_ ≠ (.slice Ao41 y115.length co41 : Value).ownBlock ∧ k_ ≠ gb105 ∧ k_ ≠ gb109 ∧ k_ ≠ gb114 ∧ k_ ≠ gb118)) (by (with_reducible repeat (first | apply Kd.N_alloc | apply Kd.N_drewN | apply Kd.N_drew)); exact Kd.N_mono HO_5.out (fun _ hk => ⟨⟨hk.1, ⟨hk.2.1, ⟨hk.2.2.2.1, ⟨hk.2.2.2.2.1, ⟨hk.2.2.2.2.2.1, ⟨hk.2.2.2.2.2.2.1, hk.2.2.2.2.2.2.2⟩⟩⟩⟩⟩⟩, hk.2.2.1⟩)) hg (.inl rfl)); have n1_ := Aside0.mk (Kd.R_after (v := (.slice (some ⟨go24, 0, none⟩) y111.length co34)) (v1 := (.slice (some ⟨go24, 0, none⟩) y111.length co34)) (ok := (fun k_ => some k_ ≠ (u110000 : Value).ownBlock ∧ some k_ ≠ (.slice Ao41 y115.length co41 : Value).ownBlock)) (by (with_reducible repeat (first | apply Kd.R_alloc | apply Kd.R_drewN | apply Kd.R_drew)); exact Kd.R_mono HO_106000.out (fun _ hk => ⟨⟨hk.1, hk.2.2⟩, hk.2.1⟩)) hg (.inl rfl)); have n2_ := Aside0.mk (Kd.R_after (v := (.slice (some ⟨go24, 0, none⟩) y111.length co34)) (v1 := (.slice (some ⟨go24, 0, none⟩) y111.length co34)) (ok := (fun k_ => some k_ ≠ (u106000 : Value).ownBlock ∧ some k_ ≠ (.slice Ao41 y115.length co41 : Value).ownBlock)) (by (with_reducible repeat (first | apply Kd.R_alloc | apply Kd.R_drewN | apply Kd.R_drew)); exact Kd.R_mono HO_110000.out (fun _ hk => ⟨⟨hk.1, hk.2.2⟩, hk.2.1⟩)) hg (.inl rfl)); have n3_ := Aside0.mk (blk_grown (g := gb105) (o := .cells #[u106000, .int .i64 x106001_1] 25 (0, 0)) Z116 hg (Kd.R_ne HO113.out BK105.out (by decide))); have n4_ := Aside0.mk (blk_grown (g := gb109) (o := .cells #[u110000, .int .i64 x110001_1] 25 (0, 0)) Z11c hg (Kd.R_ne HO113.out BK109.out (by decide))); have n5_ := Aside0.mk (hp_); have n6_ := Aside0.mk (blk_grown (g := gb114) (o := .cells #[.slice (some ⟨go24, 0, none⟩) y111.length co34, .int .i64 (wrap64 (-(Int.tmod (rd l0 x8_1) 3)))] 25 (0, 0)) Z11i hg (Kd.R_ne HO113.out BK114.out (by decide))); have n7_ := Aside0.mk (Kd.R_after (v := (.slice (some ⟨go24, 0, none⟩) y111.length co34)) (v1 := (.slice (some ⟨go24, 0, none⟩) y111.length co34)) (ok := (fun k_ => some k_ ≠ (u106000 : Value).ownBlock ∧ some k_ ≠ (u110000 : Value).ownBlock)) (by (with_reducible repeat (first | apply Kd.R_alloc | apply Kd.R_drewN | apply Kd.R_drew)); exact Kd.R_mono HO117.out (fun _ hk => ⟨⟨hk.1, hk.2.1⟩, hk.2.2⟩)) hg (.inl rfl)); have n8_ := Aside0.mk (blk_grown (g := gb118) (o := .cells #[.slice Ao41 y115.length co41, .int .i64 (Int.tmod (rd l0 x8_1) 3)] 25 (0, 0)) Z11k hg (Kd.R_ne HO113.out BK118.out (by decide))); have n9_ := Aside0.mk ((by rw [hw]; exact below_set (HB.out) GB24.out : Below w.heap.size w w50)); clear HO_5; clear HO_106000; clear HO_110000; clear BK105; clear BK109; clear HO113; clear BK114; clear HO117; clear BK118; clear HB; have HO_5 := n0_; have HO_106000 := n1_; have HO_110000 := n2_; have BK105 := n3_; have BK109 := n4_; have HO113 := n5_; have BK114 := n6_; have HO117 := n7_; have BK118 := n8_; have HB := n9_; clear n0_ n1_ n2_ n3_ n4_ n5_ n6_ n7_ n8_ n9_; clear hg hw hp_; have hcz51_0 : w50.cell? ⟨gb118, 0, none⟩ = some (.slice Ao41 y115.length co41) := (blk_cell BK118.out 0).trans rfl; have hcz51_1 : w50.cell? ⟨gb118, 1, none⟩ = some (.int .i64 (Int.tmod (rd l0 x8_1) 3)) := (blk_cell BK118.out 1).trans rfl; have hfz51_0 := blk_frozen BK118.out 0; have hfz51_1 := blk_frozen BK118.out 1; have p26 : 0 ≤ (x8_1 : Int) := of_decide_eq_true Z112; have q26 : (x8_1 : Int) < ((y115.length : Int) : Int) := of_decide_eq_true Z112; obtain ⟨go26, co26, eo26, gb26, gl26, cl26, HG26⟩ := Kd.R_form HO117.out (by omega); (first | cases eo26 | (injection eo26 with ea_ en_ ec_; (first | subst ea_ | (injection ea_ with ea_; subst ea_)); subst ec_; clear en_)); have GB26 := Aside0.mk gb26; have GG26 := Aside0.mk HG26; clear gb26 gl26 HG26; obtain ⟨hx26_0, hf26_0⟩ := Kd.R_celln 0 HO117.out (x8_1 : Int) p26 q26; replace p26 := eq_true p26; replace q26 := eq_true q26; have n_ := Aside0.mk (Kd.R_mono (ok' := (fun k_ => some k_ ≠ (u106000 : Value).ownBlock ∧ some k_ ≠ (u110000 : Value).ownBlock ∧ some k_ ≠ (.slice (some ⟨go24, 0, none⟩) y111.length co34 : Value).ownBlock)) HO117.out (fun k_ hk => ⟨hk.1.1, ⟨hk.1.2, hk.2⟩⟩)); clear HO117; have HO117 := n_; clear n_; obtain ⟨hy52_, hz52_⟩ := Kd.R_celln 0 HO117.out (x8_1 : Int) (of_decide_eq_true Z112) (of_decide_eq_true Z112); have HP52 := Kd.R_putg HO117.out (x8_1 : Int) (-1)) | ((with_reducible refine gate_store (t := 2) (p := 55) rfl ?_); refine store_event (t := 2) (p := 55) (v := ?vo_w53) (w1 := (w50.setCell ⟨go26, (x8_1 : Int).toNat, none⟩ (.int .i64 (-1)))) ?hg ?ho ?hn ?hr ?_; (case ho => rfl); (case hg => rfl); (case hn => rfl); (case hr => first | (go_simp; done) | (go_simp; rfl)); intro w53 hw; have hg : w50.grownBy w53 (some go26) := (by rw [hw]; exact HP52.2); have hp_ : Kd.R (Kd.int .i64) 2 w53 w.heap.size (fun k_ => some k_ ≠ (u106000 : Value).ownBlock ∧ some k_ ≠ (u110000 : Value).ownBlock ∧ some k_ ≠ (.slice (some ⟨go24, 0, none⟩) y111.length co34 : Value).ownBlock) (.slice (some ⟨go26, 0, none⟩) y115.length co41) y120 := (by rw [hw, Ny120.out]; exact HP52.1); clear HP52; have n0_ := Aside0.mk (Kd.N_afterv (v := (.slice (some ⟨go26, 0, none⟩) y115.length co41)) (v1 := (.slice (some ⟨go26, 0, none⟩) y115.length co41)) (ok := (fun k_ => some k_ ≠ (u106000 : Value).ownBlock ∧ some k_ ≠ (u110000 : Value).ownBlock ∧ some k_ ≠ (.slice (some ⟨go24, 0, none⟩) y111.length co34 : Value).ownBlock ∧ k_ ≠ gb105 ∧ k_ ≠ gb109 ∧ k_ ≠ gb114 ∧ k_ ≠ gb118)) (by (with_reducible repeat (first | apply Kd.N_alloc | apply Kd.N_drewN | apply Kd.N_drew)); exact Kd.N_mono HO_5.out (fun _ hk => ⟨⟨hk.1.1, ⟨hk.1.2.1, ⟨hk.2, ⟨hk.1.2.2.2.1, ⟨hk.1.2.2.2.2.1, ⟨hk.1.2.2.2.2.2.1, hk.1.2.2.2.2.2.2⟩⟩⟩⟩⟩⟩, hk.1.2.2.1⟩)) hg (.inl rfl)); have n1_ := Aside0.mk (Kd.R_after (v := (.slice (some ⟨go26, 0, none⟩) y115.length co41)) (v1 := (.slice (some ⟨go26, 0, none⟩) y115.length co41)) (ok := (fun k_ => some k_ ≠ (u110000 : Value).ownBlock ∧ some k_ ≠ (.slice (some ⟨go24, 0, none⟩) y111.length co34 : Value).ownBlock)) (by (with_reducible repeat (first | apply Kd.R_alloc | apply Kd.R_drewN | apply Kd.R_drew)); exact Kd.R_mono HO_106000.out (fun _ hk => ⟨⟨hk.1.1, hk.2⟩, hk.1.2⟩)) hg (.inl rfl)); have n2_ := Aside0.mk (Kd.R_after (v := (.slice (some ⟨go26, 0, none⟩) y115.length co41)) (v1 := (.slice (some ⟨go26, 0, none⟩) y115.length co41)) (ok := (fun k_ => some k_ ≠ (u106000 : Value).ownBlock ∧ some k_ ≠ (.slice (some ⟨go24, 0, none⟩) y111.length co34 : Value).ownBlock)) (by (with_reducible repeat (first | apply Kd.R_alloc | apply Kd.R_drewN | apply Kd.R_drew)); exact Kd.R_mono HO_110000.out (fun _ hk => ⟨⟨hk.1.1, hk.2⟩, hk.1.2⟩)) hg (.inl rfl)); have n3_ := Aside0.mk (blk_grown (g := gb105) (o := .cells #[u106000, .int .i64 x106001_1] 25 (0, 0)) Z116 hg (Kd.R_ne HO117.out BK105.out (by decide))); have n4_ := Aside0.mk (blk_grown (g := gb109) (o := .cells #[u110000, .int .i64 x110001_1] 25 (0, 0)) Z11c hg (Kd.R_ne HO117.out BK109.out (by decide))); have n5_ := Aside0.mk (Kd.R_after (v := (.slice (some ⟨go26, 0, none⟩) y115.length co41)) (v1 := (.slice (some ⟨go26, 0, none⟩) y115.length co41)) (ok := (fun k_ => some k_ ≠ (u106000 : Value).ownBlock ∧ some k_ ≠ (u110000 : Value).ownBlock)) (by (with_reducible repeat (first | apply Kd.R_alloc | apply Kd.R_drewN | apply Kd.R_drew)); exact Kd.R_mono HO113.out (fun _ hk => ⟨⟨hk.1, hk.2.1⟩, hk.2.2⟩)) hg (.inl rfl)); have n6_ := Aside0.mk (blk_grown (g := gb114) (o := .cells #[.slice (some ⟨go24, 0, none⟩) y111.length co34, .int .i64 (wrap64 (-(Int.tmod (rd l0 x8_1) 3)))] 25 (0, 0)) Z11i hg (Kd.R_ne HO117.out BK114.out (by decide))); have n7_ := Aside0.mk (hp_); have n8_ := Aside0.mk (blk_grown (g := gb118) (o := .cells #[.slice (some ⟨go26, 0, none⟩) y115.length co41, .int .i64 (Int.tmod (rd l0 x8_1) 3)] 25 (0, 0)) Z11k hg (Kd.R_ne HO117.out BK118.out (by decide))); have n9_ := Aside0.mk ((by rw [hw]; exact below_set (HB.out) GB26.out : Below w.heap.size w w53)); clear HO_5; clear HO_106000; clear HO_110000; clear BK105; clear BK109; clear HO113; clear BK114; clear HO117; clear BK118; clear HB; have HO_5 := n0_; have HO_106000 := n1_; have HO_110000 := n2_; have BK105 := n3_; have BK109 := n4_; have HO113 := n5_; have BK114 := n6_; have HO117 := n7_; have BK118 := n8_; have HB := n9_; clear n0_ n1_ n2_ n3_ n4_ n5_ n6_ n7_ n8_ n9_; clear hg hw hp_; have hcz54_0 : w53.cell? ⟨gb114, 0, none⟩ = some (.slice (some ⟨go24, 0, none⟩) y111.length co34) := (blk_cell BK114.out 0).trans rfl; have hcz54_1 : w53.cell? ⟨gb114, 1, none⟩ = some (.int .i64 (wrap64 (-(Int.tmod (rd l0 x8_1) 3)))) := (blk_cell BK114.out 1).trans rfl; have hfz54_0 := blk_frozen BK114.out 0; have hfz54_1 := blk_frozen BK114.out 1; have hcz55_0 : w53.cell? ⟨gb118, 0, none⟩ = some (.slice (some ⟨go26, 0, none⟩) y115.length co41) := (blk_cell BK118.out 0).trans rfl; have hcz55_1 : w53.cell? ⟨gb118, 1, none⟩ = some (.int .i64 (Int.tmod (rd l0 x8_1) 3)) := (blk_cell BK118.out 1).trans rfl; have hfz55_0 := blk_frozen BK118.out 0; have hfz55_1 := blk_frozen BK118.out 1) | ((with_reducible refine gate_dst (N := 59) rfl ?_); (try (refine gate_guard (by rfl) ?_; dsimp only)); refine Kd.N_lit k25 _ 25 ?hg (N' := 59) ?hd (xs := ([(⟨y119, wrap64 (-(Int.tmod (rd l0 x8_1) 3))⟩ : S25), (⟨y120, Int.tmod (rd l0 x8_1) 3⟩ : S25)] : List (S25))) (inner := [.slice (some ⟨go24, 0, none⟩) y111.length co34, .int .i64 (wrap64 (-(Int.tmod (rd l0 x8_1) 3))), .slice (some ⟨go26, 0, none⟩) y115.length co41, .int .i64 (Int.tmod (rd l0 x8_1) 3)]) (ok := (fun k_ => some k_ ≠ (u5 : Value).ownBlock ∧ some k_ ≠ (u106000 : Value).ownBlock ∧ some k_ ≠ (u110000 : Value).ownBlock ∧ k_ ≠ gb105 ∧ k_ ≠ gb109 ∧ k_ ≠ gb114 ∧ k_ ≠ gb118)) (okp := (fun k_ => some k_ ≠ (u5 : Value).ownBlock ∧ some k_ ≠ (u106000 : Value).ownBlock ∧ some k_ ≠ (u110000 : Value).ownBlock ∧ k_ ≠ gb105 ∧ k_ ≠ gb109 ∧ k_ ≠ gb114 ∧ k_ ≠ gb118)) ?hr ?hp (fun _ hk => hk) ((show ∀ k_, w53.heap.size ≤ k_ → (fun k_ => some k_ ≠ (u5 : Value).ownBlock ∧ some k_ ≠ (u106000 : Value).ownBlock ∧ some k_ ≠ (u110000 : Value).ownBlock ∧ k_ ≠ gb105 ∧ k_ ≠ gb109 ∧ k_ ≠ gb114 ∧ k_ ≠ gb118) k_ from fun k_ hk => ⟨Kd.fresh' (Kd.N_lt Z118) k_ hk, Kd.fresh' (Kd.R_lt Z119) k_ hk, Kd.fresh' (Kd.R_lt Z11a) k_ hk, Kd.freshB (g := gb105) (o := .cells #[u106000, .int .i64 x106001_1] 25 (0, 0)) Z116 k_ hk, Kd.freshB (g := gb109) (o := .cells #[u110000, .int .i64 x110001_1] 25 (0, 0)) Z11c k_ hk, Kd.freshB (g := gb114) (o := .cells #[.slice (some ⟨go24, 0, none⟩) y111.length co34, .int .i64 (wrap64 (-(Int.tmod (rd l0 x8_1) 3)))] 25 (0, 0)) Z11i k_ hk, Kd.freshB (g := gb118) (o := .cells #[.slice (some ⟨go26, 0, none⟩) y115.length co41, .int .i64 (Int.tmod (rd l0 x8_1) 3)] 25 (0, 0)) Z11k k_ hk⟩) _ (Nat.le_refl _)) (Below.refl _ _) (Nat.le_refl _) (by simp) ?_; (case hd => rfl); (case hg => rfl); (case hr => first | (go_simp; done) | (go_simp; rfl)); (case hp => exact (Reps.c2 (show Kd.FK k25 _ _ (⟨y119, wrap64 (-(Int.tmod (rd l0 x8_1) 3))⟩ : S25) [.slice (some ⟨go24, 0, none⟩) y111.length co34, .int .i64 (wrap64 (-(Int.tmod (rd l0 x8_1) 3)))] from (by have e_ : y111.length = y119.length := (by rw [Ny119.out, List.length_set]); have h_ := (Kd.R_types (Kd.R_types (Kd.R_types (Kd.R_types (Kd.R_apart' (HO113.out) (Kd.N_typed HO_5.out) (by decide)) BK105.out (by decide)) BK109.out (by decide)) BK114.out (by decide)) BK118.out (by decide)); rw [e_] at h_ ⊢; exact k25_mkF _ _ (⟨y119, wrap64 (-(Int.tmod (rd l0 x8_1) 3))⟩ : S25) (Kd.R_reads' h_).2.1 (Kd.R_F (Kd.R_mono (ok' := (fun k_ => some k_ ≠ (u5 : Value).ownBlock ∧ some k_ ≠ (u106000 : Value).ownBlock ∧ some k_ ≠ (u110000 : Value).ownBlock ∧ k_ ≠ gb105 ∧ k_ ≠ gb109 ∧ k_ ≠ gb114 ∧ k_ ≠ gb118)) h_ (fun k_ hk => ⟨hk.1.1.1.1.2, ⟨hk.1.1.1.1.1.1.1, ⟨hk.1.1.1.1.1.1.2, ⟨hk.1.1.1.2, ⟨hk.1.1.2, ⟨hk.1.2, hk.2⟩⟩⟩⟩⟩⟩))))) (Reps.c2 (show Kd.FK k25 _ _ (⟨y120, Int.tmod (rd l0 x8_1) 3⟩ : S25) [.slice (some ⟨go26, 0, none⟩) y115.length co41, .int .i64 (Int.tmod (rd l0 x8_1) 3)] from (by have e_ : y115.length = y120.length := (by rw [Ny120.out, List.length_set]); have h_ := (Kd.R_types (Kd.R_types (Kd.R_types (Kd.R_types (Kd.R_apart' (HO117.out) (Kd.N_typed HO_5.out) (by decide)) BK105.out (by decide)) BK109.out (by decide)) BK114.out (by decide)) BK118.out (by decide)); rw [e_] at h_ ⊢; exact k25_mkF _ _ (⟨y120, Int.tmod (rd l0 x8_1) 3⟩ : S25) (Kd.R_reads' h_).2.1 (Kd.R_F (Kd.R_mono (ok' := (fun k_ => some k_ ≠ (u5 : Value).ownBlock ∧ some k_ ≠ (u106000 : Value).ownBlock ∧ some k_ ≠ (u110000 : Value).ownBlock ∧ k_ ≠ gb105 ∧ k_ ≠ gb109 ∧ k_ ≠ gb114 ∧ k_ ≠ gb118)) h_ (fun k_ hk => ⟨hk.1.1.1.1.2, ⟨hk.1.1.1.1.1.1, ⟨hk.1.1.1.1.1.2.1, ⟨hk.1.1.1.2, ⟨hk.1.1.2, ⟨hk.1.2, hk.2⟩⟩⟩⟩⟩⟩))))) (Reps.none _ _)))); intro v122 w56 ho57 hb hg_ hnew_; clear hg_ hnew_; (first | rw [← Ny121.out] at ho57 | (simp only [Int.reduceToNat] at ho57; rw [← Ny121.out] at ho57)); have n0_ := Aside0.mk (Kd.N_elder' Z118 (Kd.N_base ho57) hb); have n1_ := Aside0.mk (Kd.R_below Z119 hb); have n2_ := Aside0.mk (Kd.R_below Z11a hb); have n3_ := Aside0.mk (Kd.N_lower ho57 (below_size Z11j)); have n4_ := Aside0.mk (blk_below (g := gb105) (o := .cells #[u106000, .int .i64 x106001_1] 25 (0, 0)) Z116 hb); have n5_ := Aside0.mk (blk_below (g := gb109) (o := .cells #[u110000, .int .i64 x110001_1] 25 (0, 0)) Z11c hb); have n6_ := Aside0.mk (blk_below (g := gb114) (o := .cells #[.slice (some ⟨go24, 0, none⟩) y111.length co34, .int .i64 (wrap64 (-(Int.tmod (rd l0 x8_1) 3)))] 25 (0, 0)) Z11i hb); have n7_ := Aside0.mk (blk_below (g := gb118) (o := .cells #[.slice (some ⟨go26, 0, none⟩) y115.length co41, .int .i64 (Int.tmod (rd l0 x8_1) 3)] 25 (0, 0)) Z11k hb); have n8_ := Aside0.mk (below_step Z11j hb); clear HO_5; clear HO_106000; clear HO_110000; clear BK105; clear BK109; clear BK114; clear BK118; clear HB; clear HO113; clear HO117; have HO_5 := n0_; have HO_106000 := n1_; have HO_110000 := n2_; have HO123 := n3_; have BK105 := n4_; have BK109 := n5_; have BK114 := n6_; have BK118 := n7_; have HB := n8_; clear n0_ n1_ n2_ n3_ n4_ n5_ n6_ n7_ n8_; clear hb ho57; obtain ⟨Ao59, co59, eo59⟩ := Kd.N_slice HO123.out; subst eo59) | ((with_reducible refine gate_builtin (b := .append) (xs := #[.tmp 56, .tmp 59]) rfl ?_); (try (refine gate_guard (by rfl) ?_; dsimp only)); at_builtin; refine Kd.N_append_rows k25 (w0 := w) w.heap.size rfl (.tmp 56) (.tmp 59) 22 25 (.agg #[(.slice none 0 0), (.int .i64 0)]) 32 rfl Try.underlying22 info25 rfl (by decide) (by omega) u5 x5_1 y121 _ _ _ (fun k_ => some k_ ≠ (u106000 : Value).ownBlock ∧ some k_ ≠ (u110000 : Value).ownBlock ∧ k_ ≠ gb105 ∧ k_ ≠ gb109 ∧ k_ ≠ gb114 ∧ k_ ≠ gb118) (fun k_ => ((fun k_ => some k_ ≠ (u106000 : Value).ownBlock ∧ some k_ ≠ (u110000 : Value).ownBlock ∧ k_ ≠ gb105 ∧ k_ ≠ gb109 ∧ k_ ≠ gb114 ∧ k_ ≠ gb118)) k_ ∧ some k_ ≠ (u5 : Value).ownBlock) rfl rfl ?aO ?aR (fun _ hk => hk) ?aF ?aB ?aS ?aL ?_; (case aR => exact (by skip; exact Kd.N_F (Kd.N_mono (ok' := (fun k_ => ((fun k_ => some k_ ≠ (u106000 : Value).ownBlock ∧ some k_ ≠ (u110000 : Value).ownBlock ∧ k_ ≠ gb105 ∧ k_ ≠ gb109 ∧ k_ ≠ gb114 ∧ k_ ≠ gb118)) k_ ∧ some k_ ≠ (u5 : Value).ownBlock)) (HO123.out) (fun k_ hk => ⟨⟨hk.2.1, ⟨hk.2.2.1, ⟨hk.2.2.2.1, ⟨hk.2.2.2.2.1, ⟨hk.2.2.2.2.2.1, hk.2.2.2.2.2.2⟩⟩⟩⟩⟩, hk.1⟩)))); (case aB => exact Z11j); (case aF => exact (fun k_ hk => ⟨Kd.fresh' (Kd.R_lt Z119) k_ hk, Kd.fresh' (Kd.R_lt Z11a) k_ hk, Kd.freshB (g := gb105) (o := .cells #[u106000, .int .i64 x106001_1] 25 (0, 0)) Z116 k_ hk, Kd.freshB (g := gb109) (o := .cells #[u110000, .int .i64 x110001_1] 25 (0, 0)) Z11c k_ hk, Kd.freshB (g := gb114) (o := .cells #[.slice (some ⟨go24, 0, none⟩) y111.length co34, .int .i64 (wrap64 (-(Int.tmod (rd l0 x8_1) 3)))] 25 (0, 0)) Z11i k_ hk, Kd.freshB (g := gb118) (o := .cells #[.slice (some ⟨go26, 0, none⟩) y115.length co41, .int .i64 (Int.tmod (rd l0 x8_1) 3)] 25 (0, 0)) Z11k k_ hk⟩)); (case aO => exact (by (with_reducible repeat (first | apply Kd.N_alloc | apply Kd.N_drewN | apply Kd.N_drew)); exact Kd.N_mono HO_5.out (fun _ hk => ⟨hk.1.1.1, ⟨hk.1.1.2.1, ⟨hk.1.1.2.2.2.1, ⟨hk.1.1.2.2.2.2.1, ⟨hk.1.1.2.2.2.2.2.1, hk.1.1.2.2.2.2.2.2⟩⟩⟩⟩⟩))); (case aS => exact (below_size Z11j)); (case aL => have := LMc27.out; omega); intro v125 w58 ho hb hg hat; rw [← Ny124.out] at ho; have n0_ := Aside0.mk (Kd.R_over' Z119 (Kd.N_typed Z118) (by decide) hg); have n1_ := Aside0.mk (Kd.R_over' Z11a (Kd.N_typed Z118) (by decide) hg); have n2_ := Aside0.mk (blk_grown (g := gb105) (o := .cells #[u106000, .int .i64 x106001_1] 25 (0, 0)) Z116 hg (Kd.N_away HO_5.out (fun _ hk => hk.1.1.2.2.2.1))); have n3_ := Aside0.mk (blk_grown (g := gb109) (o := .cells #[u110000, .int .i64 x110001_1] 25 (0, 0)) Z11c hg (Kd.N_away HO_5.out (fun _ hk => hk.1.1.2.2.2.2.1))); have n4_ := Aside0.mk (blk_grown (g := gb114) (o := .cells #[.slice (some ⟨go24, 0, none⟩) y111.length co34, .int .i64 (wrap64 (-(Int.tmod (rd l0 x8_1) 3)))] 25 (0, 0)) Z11i hg (Kd.N_away HO_5.out (fun _ hk => hk.1.1.2.2.2.2.2.1))); have n5_ := Aside0.mk (blk_grown (g := gb118) (o := .cells #[.slice (some ⟨go26, 0, none⟩) y115.length co41, .int .i64 (Int.tmod (rd l0 x8_1) 3)] 25 (0, 0)) Z11k hg (Kd.N_away HO_5.out (fun _ hk => hk.1.1.2.2.2.2.2.2))); have n6_ := Aside0.mk (Kd.N_afterv (ok := (fun k_ => some k_ ≠ (u106000 : Value).ownBlock ∧ some k_ ≠ (u110000 : Value).ownBlock ∧ k_ ≠ gb105 ∧ k_ ≠ gb109 ∧ k_ ≠ gb114 ∧ k_ ≠ gb118)) (by (with_reducible repeat (first | apply Kd.N_alloc | apply Kd.N_drewN | apply Kd.N_drew)); exact Kd.N_mono HO123.out (fun _ hk => ⟨⟨hk.2.1, ⟨hk.2.2.1, ⟨hk.2.2.2.1, ⟨hk.2.2.2.2.1, ⟨hk.2.2.2.2.2.1, hk.2.2.2.2.2.2⟩⟩⟩⟩⟩, hk.1⟩)) hg hat); have n7_ := Aside0.mk (hb); have n8_ := Aside0.mk (ho); clear HO_106000; clear HO_110000; clear BK105; clear BK109; clear BK114; clear BK118; clear HO123; clear HB; clear HO_5; have HO_106000 := n0_; have HO_110000 := n1_; have BK105 := n2_; have BK109 := n3_; have BK114 := n4_; have BK118 := n5_; have HO123 := n6_; have HB := n7_; have HO126 := n8_; clear n0_ n1_ n2_ n3_ n4_ n5_ n6_ n7_ n8_; clear ho hb hg hat; have hnb60 := NB105_109.out; have hnc60 := NB109_105.out; have hcz61_0 : w58.cell? ⟨gb105, 0, none⟩ = some (u106000) := (blk_cell BK105.out 0).trans rfl; have hcz61_1 : w58.cell? ⟨gb105, 1, none⟩ = some (.int .i64 x106001_1) := (blk_cell BK105.out 1).trans rfl; have hfz61_0 := blk_frozen BK105.out 0; have hfz61_1 := blk_frozen BK105.out 1; have p29 : 0 ≤ (x8_1 : Int) := of_decide_eq_true Z112; have q29 : (x8_1 : Int) < ((x106000_1.length : Int) : Int) := of_decide_eq_true Z112; obtain ⟨go29, co29, eo29, gb29, gl29, cl29, HG29⟩ := Kd.R_form HO_106000.out (by omega); (first | cases eo29 | (injection eo29 with ea_ en_ ec_; (first | subst ea_ | (injection ea_ with ea_; subst ea_)); subst ec_; clear en_)); have GB29 := Aside0.mk gb29; have GG29 := Aside0.mk HG29; clear gb29 gl29 HG29; obtain ⟨hx29_0, hf29_0⟩ := Kd.R_celln 0 HO_106000.out (x8_1 : Int) p29 q29; replace p29 := eq_true p29; replace q29 := eq_true q29; have n_ := Aside0.mk (Kd.R_mono (ok' := (fun k_ => some k_ ≠ (u110000 : Value).ownBlock)) HO_106000.out (fun k_ hk => hk.1.1)); clear HO_106000; have HO_106000 := n_; clear n_; obtain ⟨hy62_, hz62_⟩ := Kd.R_celln 0 HO_106000.out (x8_1 : Int) (of_decide_eq_true Z112) (of_decide_eq_true Z112); have HP62 := Kd.R_putg HO_106000.out (x8_1 : Int) (-1)) | ((with_reducible refine gate_store (t := 2) (p := 64) rfl ?_); refine store_event (t := 2) (p := 64) (v := ?vo_w63) (w1 := (w58.setCell ⟨go29, (x8_1 : Int).toNat, none⟩ (.int .i64 (-1)))) ?hg ?ho ?hn ?hr ?_; (case ho => rfl); (case hg => rfl); (case hn => rfl); (case hr => first | (go_simp; done) | (go_simp; rfl)); intro w63 hw; have hg : w58.grownBy w63 (some go29) := (by rw [hw]; exact HP62.2); have hp_ : Kd.R (Kd.int .i64) 2 w63 w.heap.size (fun k_ => some k_ ≠ (u110000 : Value).ownBlock) (.slice (some ⟨go29, 0, none⟩) x106000_1.length co29) y127 := (by rw [hw, Ny127.out]; exact HP62.1); clear HP62; have n0_ := Aside0.mk (hp_); have n1_ := Aside0.mk (Kd.R_after (v := (.slice (some ⟨go29, 0, none⟩) x106000_1.length co29)) (v1 := (.slice (some ⟨go29, 0, none⟩) x106000_1.length co29)) (ok := (fun _ => True)) (by (with_reducible repeat (first | apply Kd.R_alloc | apply Kd.R_drewN | apply Kd.R_drew)); exact Kd.R_mono HO_110000.out (fun _ hk => ⟨trivial, hk.1.1⟩)) hg (.inl rfl)); have n2_ := Aside0.mk (blk_grown (g := gb105) (o := .cells #[.slice (some ⟨go29, 0, none⟩) x106000_1.length co29, .int .i64 x106001_1] 25 (0, 0)) Z116 hg (Kd.R_ne HO_106000.out BK105.out (by decide))); have n3_ := Aside0.mk (blk_grown (g := gb109) (o := .cells #[u110000, .int .i64 x110001_1] 25 (0, 0)) Z11c hg (Kd.R_ne HO_106000.out BK109.out (by decide))); have n4_ := Aside0.mk (blk_grown (g := gb114) (o := .cells #[.slice (some ⟨go24, 0, none⟩) y111.length co34, .int .i64 (wrap64 (-(Int.tmod (rd l0 x8_1) 3)))] 25 (0, 0)) Z11i hg (Kd.R_ne HO_106000.out BK114.out (by decide))); have n5_ := Aside0.mk (blk_grown (g := gb118) (o := .cells #[.slice (some ⟨go26, 0, none⟩) y115.length co41, .int .i64 (Int.tmod (rd l0 x8_1) 3)] 25 (0, 0)) Z11k hg (Kd.R_ne HO_106000.out BK118.out (by decide))); have n6_ := Aside0.mk (Kd.N_afterv (v := (.slice (some ⟨go29, 0, none⟩) x106000_1.length co29)) (v1 := (.slice (some ⟨go29, 0, none⟩) x106000_1.length co29)) (ok := (fun k_ => some k_ ≠ (u110000 : Value).ownBlock ∧ some k_ ≠ (v125 : Value).ownBlock ∧ k_ ≠ gb105 ∧ k_ ≠ gb109 ∧ k_ ≠ gb114 ∧ k_ ≠ gb118)) (by (with_reducible repeat (first | apply Kd.N_alloc | apply Kd.N_drewN | apply Kd.N_drew)); exact Kd.N_mono HO123.out (fun _ hk => ⟨⟨hk.1.2.1, ⟨hk.2, ⟨hk.1.2.2.1, ⟨hk.1.2.2.2.1, ⟨hk.1.2.2.2.2.1, hk.1.2.2.2.2.2⟩⟩⟩⟩⟩, hk.1.1⟩)) hg (.inl rfl)); have n7_ := Aside0.mk (Kd.N_afterv (v := (.slice (some ⟨go29, 0, none⟩) x106000_1.length co29)) (v1 := (.slice (some ⟨go29, 0, none⟩) x106000_1.length co29)) (ok := (fun k_ => some k_ ≠ (u110000 : Value).ownBlock ∧ k_ ≠ gb105 ∧ k_ ≠ gb109 ∧ k_ ≠ gb114 ∧ k_ ≠ gb118)) (by (with_reducible repeat (first | apply Kd.N_alloc | apply Kd.N_drewN | apply Kd.N_drew)); exact Kd.N_mono HO126.out (fun _ hk => ⟨⟨hk.2.1, ⟨hk.2.2.1, ⟨hk.2.2.2.1, ⟨hk.2.2.2.2.1, hk.2.2.2.2.2⟩⟩⟩⟩, hk.1⟩)) hg (.inl rfl)); have n8_ := Aside0.mk ((by rw [hw]; exact below_set (HB.out) GB29.out : Below w.heap.size w w63)); clear HO_106000; clear HO_110000; clear BK105; clear BK109; clear BK114; clear BK118; clear HO123; clear HO126; clear HB; have HO_106000 := n0_; have HO_110000 := n1_; have BK105 := n2_; have BK109 := n3_; have BK114 := n4_; have BK118 := n5_; have HO123 := n6_; have HO126 := n7_; have HB := n8_; clear n0_ n1_ n2_ n3_ n4_ n5_ n6_ n7_ n8_; clear hg hw hp_; have hcz64_0 : w63.cell? ⟨gb109, 0, none⟩ = some (u110000) := (blk_cell BK109.out 0).trans rfl; have hcz64_1 : w63.cell? ⟨gb109, 1, none⟩ = some (.int .i64 x110001_1) := (blk_cell BK109.out 1).trans rfl; have hfz64_0 := blk_frozen BK109.out 0; have hfz64_1 := blk_frozen BK109.out 1; have p31 : 0 ≤ (x8_1 : Int) := of_decide_eq_true Z112; have q31 : (x8_1 : Int) < ((x110000_1.length : Int) : Int) := of_decide_eq_true Z112; obtain ⟨go31, co31, eo31, gb31, gl31, cl31, HG31⟩ := Kd.R_form HO_110000.out (by omega); (first | cases eo31 | (injection eo31 with ea_ en_ ec_; (first | subst ea_ | (injection ea_ with ea_; subst ea_)); subst ec_; clear en_)); have GB31 := Aside0.mk gb31; have GG31 := Aside0.mk HG31; clear gb31 gl31 HG31; obtain ⟨hx31_0, hf31_0⟩ := Kd.R_celln 0 HO_110000.out (x8_1 : Int) p31 q31; replace p31 := eq_true p31; replace q31 := eq_true q31; have n_ := Aside0.mk (Kd.R_mono (ok' := (fun k_ => some k_ ≠ (.slice (some ⟨go29, 0, none⟩) x106000_1.length co29 : Value).ownBlock)) HO_110000.out (fun k_ hk => hk.2)); clear HO_110000; have HO_110000 := n_; clear n_; obtain ⟨hy65_, hz65_⟩ := Kd.R_celln 0 HO_110000.out (x8_1 : Int) (of_decide_eq_true Z112) (of_decide_eq_true Z112); have HP65 := Kd.R_putg HO_110000.out (x8_1 : Int) 1) | ((with_reducible refine gate_store (t := 2) (p := 68) rfl ?_); refine store_event (t := 2) (p := 68) (v := ?vo_w66) (w1 := (w63.setCell ⟨go31, (x8_1 : Int).toNat, none⟩ (.int .i64 1))) ?hg ?ho ?hn ?hr ?_; (case ho => rfl); (case hg => rfl); (case hn => rfl); (case hr => first | (go_simp; done) | (go_simp; rfl)); intro w66 hw; have hg : w63.grownBy w66 (some go31) := (by rw [hw]; exact HP65.2); have hp_ : Kd.R (Kd.int .i64) 2 w66 w.heap.size (fun k_ => some k_ ≠ (.slice (some ⟨go29, 0, none⟩) x106000_1.length co29 : Value).ownBlock) (.slice (some ⟨go31, 0, none⟩) x110000_1.length co31) y128 := (by rw [hw, Ny128.out]; exact HP65.1); clear HP65; have n0_ := Aside0.mk (Kd.R_after (v := (.slice (some ⟨go31, 0, none⟩) x110000_1.length co31)) (v1 := (.slice (some ⟨go31, 0, none⟩) x110000_1.length co31)) (ok := (fun _ => True)) (by (with_reducible repeat (first | apply Kd.R_alloc | apply Kd.R_drewN | apply Kd.R_drew)); exact Kd.R_mono HO_106000.out (fun _ hk => ⟨trivial, hk⟩)) hg (.inl rfl)); have n1_ := Aside0.mk (hp_); have n2_ := Aside0.mk (blk_grown (g := gb105) (o := .cells #[.slice (some ⟨go29, 0, none⟩) x106000_1.length co29, .int .i64 x106001_1] 25 (0, 0)) Z116 hg (Kd.R_ne HO_110000.out BK105.out (by decide))); have n3_ := Aside0.mk (blk_grown (g := gb109) (o := .cells #[.slice (some ⟨go31, 0, none⟩) x110000_1.length co31, .int .i64 x110001_1] 25 (0, 0)) Z11c hg (Kd.R_ne HO_110000.out BK109.out (by decide))); have n4_ := Aside0.mk (blk_grown (g := gb114) (o := .cells #[.slice (some ⟨go24, 0, none⟩) y111.length co34, .int .i64 (wrap64 (-(Int.tmod (rd l0 x8_1) 3)))] 25 (0, 0)) Z11i hg (Kd.R_ne HO_110000.out BK114.out (by decide))); have n5_ := Aside0.mk (blk_grown (g := gb118) (o := .cells #[.slice (some ⟨go26, 0, none⟩) y115.length co41, .int .i64 (Int.tmod (rd l0 x8_1) 3)] 25 (0, 0)) Z11k hg (Kd.R_ne HO_110000.out BK118.out (by decide))); have n6_ := Aside0.mk (Kd.N_afterv (v := (.slice (some ⟨go31, 0, none⟩) x110000_1.length co31)) (v1 := (.slice (some ⟨go31, 0, none⟩) x110000_1.length co31)) (ok := (fun k_ => some k_ ≠ (.slice (some ⟨go29, 0, none⟩) x106000_1.length co29 : Value).ownBlock ∧ some k_ ≠ (v125 : Value).ownBlock ∧ k_ ≠ gb105 ∧ k_ ≠ gb109 ∧ k_ ≠ gb114 ∧ k_ ≠ gb118)) (by (with_reducible repeat (first | apply Kd.N_alloc | apply Kd.N_drewN | apply Kd.N_drew)); exact Kd.N_mono HO123.out (fun _ hk => ⟨⟨hk.2, ⟨hk.1.2.1, ⟨hk.1.2.2.1, ⟨hk.1.2.2.2.1, ⟨hk.1.2.2.2.2.1, hk.1.2.2.2.2.2⟩⟩⟩⟩⟩, hk.1.1⟩)) hg (.inl rfl)); have n7_ := Aside0.mk (Kd.N_afterv (v := (.slice (some ⟨go31, 0, none⟩) x110000_1.length co31)) (v1 := (.slice (some ⟨go31, 0, none⟩) x110000_1.length co31)) (ok := (fun k_ => some k_ ≠ (.slice (some ⟨go29, 0, none⟩) x106000_1.length co29 : Value).ownBlock ∧ k_ ≠ gb105 ∧ k_ ≠ gb109 ∧ k_ ≠ gb114 ∧ k_ ≠ gb118)) (by (with_reducible repeat (first | apply Kd.N_alloc | apply Kd.N_drewN | apply Kd.N_drew)); exact Kd.N_mono HO126.out (fun _ hk => ⟨⟨hk.2, ⟨hk.1.2.1, ⟨hk.1.2.2.1, ⟨hk.1.2.2.2.1, hk.1.2.2.2.2⟩⟩⟩⟩, hk.1.1⟩)) hg (.inl rfl)); have n8_ := Aside0.mk ((by rw [hw]; exact below_set (HB.out) GB31.out : Below w.heap.size w w66)); clear HO_106000; clear HO_110000; clear BK105; clear BK109; clear BK114; clear BK118; clear HO123; clear HO126; clear HB; have HO_106000 := n0_; have HO_110000 := n1_; have BK105 := n2_; have BK109 := n3_; have BK114 := n4_; have BK118 := n5_; have HO123 := n6_; have HO126 := n7_; have HB := n8_; clear n0_ n1_ n2_ n3_ n4_ n5_ n6_ n7_ n8_; clear hg hw hp_; have hcz67_0 : w66.cell? ⟨gb105, 0, none⟩ = some (.slice (some ⟨go29, 0, none⟩) x106000_1.length co29) := (blk_cell BK105.out 0).trans rfl; have hcz67_1 : w66.cell? ⟨gb105, 1, none⟩ = some (.int .i64 x106001_1) := (blk_cell BK105.out 1).trans rfl; have hfz67_0 := blk_frozen BK105.out 0; have hfz67_1 := blk_frozen BK105.out 1; have hcz68_0 : w66.cell? ⟨gb109, 0, none⟩ = some (.slice (some ⟨go31, 0, none⟩) x110000_1.length co31) := (blk_cell BK109.out 0).trans rfl; have hcz68_1 : w66.cell? ⟨gb109, 1, none⟩ = some (.int .i64 x110001_1) := (blk_cell BK109.out 1).trans rfl; have hfz68_0 := blk_frozen BK109.out 0; have hfz68_1 := blk_frozen BK109.out 1))
               go_roundg k1
               case measure => have := HK1.out; omega
               case rel => exact ⟨(y124), (wrap64 (x8_1 + 1)), (y127), (wrap64 (x106001_1 + (Int.tmod (rd l0 x8_1) 3))), (y128), (wrap64 (x110001_1 - (Int.tmod (rd l0 x8_1) 3))), (.slice (some ⟨go29, 0, none⟩) x106000_1.length co29), (.slice (some ⟨go31, 0, none⟩) x110000_1.length co31), Z117, H', ⟨by have := HK1.out; omega⟩, ⟨by (with_reducible repeat (first | apply Kd.N_alloc | apply Kd.N_drewN | apply Kd.N_drew)); exact Kd.N_mono (Kd.N_far (p := ⟨gb109, 1, none⟩) (Kd.N_far (p := ⟨gb105, 1, none⟩) (Kd.N_mono (Kd.N_mono HO126.out (fun k_ hk => (⟨hk, hk.1.2.1⟩ : _ ∧ k_ ≠ gb105))) (fun k_ hk => (⟨hk, hk.1.1.2.2.1⟩ : _ ∧ k_ ≠ gb109))) (fun _ hk => hk.1.2) (.int .i64 (wrap64 (x106001_1 + (Int.tmod (rd l0 x8_1) 3))))) (fun _ hk => hk.2) (.int .i64 (wrap64 (x110001_1 - (Int.tmod (rd l0 x8_1) 3))))) (fun _ hk => ⟨hk.1.1.1.1, ⟨hk.1.1.2, ⟨hk.1.1.1.2.1, hk.1.1.1.2.2.1⟩⟩⟩)⟩, ⟨by (with_reducible repeat (first | apply Kd.R_alloc | apply Kd.R_drewN | apply Kd.R_drew)); exact Kd.R_mono (Kd.R_far (p := ⟨gb109, 1, none⟩) (Kd.R_far (p := ⟨gb105, 1, none⟩) (Kd.R_types (Kd.R_types HO_106000.out BK105.out (by decide)) BK109.out (by decide)) (fun _ hk => hk.1.2) (.int .i64 (wrap64 (x106001_1 + (Int.tmod (rd l0 x8_1) 3))))) (fun _ hk => hk.2) (.int .i64 (wrap64 (x110001_1 - (Int.tmod (rd l0 x8_1) 3))))) (fun _ hk => hk.1.1.2)⟩, ⟨by (with_reducible repeat (first | apply Kd.R_alloc | apply Kd.R_drewN | apply Kd.R_drew)); exact Kd.R_mono (Kd.R_far (p := ⟨gb109, 1, none⟩) (Kd.R_far (p := ⟨gb105, 1, none⟩) (Kd.R_types (Kd.R_types HO_110000.out BK105.out (by decide)) BK109.out (by decide)) (fun _ hk => hk.1.2) (.int .i64 (wrap64 (x106001_1 + (Int.tmod (rd l0 x8_1) 3))))) (fun _ hk => hk.2) (.int .i64 (wrap64 (x110001_1 - (Int.tmod (rd l0 x8_1) 3))))) (fun _ hk => hk.1.1)⟩, ⟨by (with_reducible repeat (first | refine blk_drewN ?_ _ | refine blk_drew ?_ | refine blk_alloc ?_ _)); refine blk_far ?_ NB105_109.out _; (with_reducible repeat (first | refine blk_drewN ?_ _ | refine blk_drew ?_ | refine blk_alloc ?_ _)); refine blk_put (cs := #[.slice (some ⟨go29, 0, none⟩) x106000_1.length co29, .int .i64 x106001_1]) ?_ 1 _ rfl; (with_reducible repeat (first | refine blk_drewN ?_ _ | refine blk_drew ?_ | refine blk_alloc ?_ _)); exact BK105.out⟩, ⟨by (with_reducible repeat (first | refine blk_drewN ?_ _ | refine blk_drew ?_ | refine blk_alloc ?_ _)); refine blk_put (cs := #[.slice (some ⟨go31, 0, none⟩) x110000_1.length co31, .int .i64 x110001_1]) ?_ 1 _ rfl; (with_reducible repeat (first | refine blk_drewN ?_ _ | refine blk_drew ?_ | refine blk_alloc ?_ _)); refine blk_far ?_ NB109_105.out _; (with_reducible repeat (first | refine blk_drewN ?_ _ | refine blk_drew ?_ | refine blk_alloc ?_ _)); exact BK109.out⟩, ⟨by repeat (first | (with_reducible first | exact HB.out | apply below_alloc | apply pw_below_drewN | apply below_drew1 | refine below_set ?_ GE105.out | refine below_set ?_ GE109.out | refine below_set ?_ GE114.out | refine below_set ?_ GE118.out) | exact HB.out)⟩⟩
              ·rw [if_neg c30] at H
               exact absurd H (by simp)
             ·rw [if_neg c28] at H
              exact absurd H (by simp)
            ·rw [if_neg c27] at H
             exact absurd H (by simp)
           ·rw [if_neg c25] at H
            exact absurd H (by simp)
          ·rw [if_neg c23] at H
           exact absurd H (by simp)
         ·rw [if_neg c22] at H
          exact absurd H (by simp)
        ·rw [if_neg c21] at H
         exact absurd H (by simp)
       ·rw [if_neg c20] at H
        exact absurd H (by simp)
      ·rw [if_neg c19] at H
       exact absurd H (by simp)
     ·rw [if_neg c18] at H
      have c18b0 : decide (x8_1 < ji3) = false := decide_eq_false c18
      clear c18
      replace H := Option.bind_eq_some_iff.mp H
      obtain ⟨⟨t129, t130⟩, A690, H⟩ := H
      replace H : (if t129 = 1 then (ashlarlaw12_WholePoint.j1 k1 l0 t101 ji3 x5_1 t130 ((t130.length : Int) != ji3) x106000_1 x106001_1 x110000_1 x110001_1) else (ashlarlaw12_WholePoint.j1 k1 l0 t101 ji3 x5_1 t130 true x106000_1 x106001_1 x110000_1 x110001_1)) = some r := H
      have A69 := Aside0.mk A690
      clear A690
      have HC70 := Aside0.mk H
      clear H
      obtain ⟨Ao71, co71, eo71⟩ := Kd.N_slice HO_5.out
      subst eo71
      go_upto_region 20 with (first | ((with_reducible refine gate_callee (f := 9) rfl ?_); refine goesL_ (some 82) rfl rfl Try.func9 Z110 rfl #[.slice Ao71 x5_1.length co71, .int .i64 ji3, .int .i64 1000] rfl (by (try simp only [List.map_toArray, List.map_cons, List.map_nil]); first | done | (simp only [hji3]; rfl) | rfl | (simp only [List.length_drop, List.length_take]; rfl)) ?_; (with_reducible refine (whole_Solve.calls _ _ x5_1 ji3 1000 t129 t130 _ ?side1 ?side2 A69.out).mono ?_); (case side1 => repeat (first | exact (Kd.N_reads' HO_5.out).2.2 | (with_reducible refine Kd.C_alloc ?_ _) | (with_reducible refine Kd.C_drewN ?_ _) | (with_reducible refine Kd.C_drew ?_))); (case side2 => exact (Kd.N_reads' HO_5.out).2.1); rintro e w72 ⟨v131, rfl, ho0, hb⟩; refine ⟨_, rfl, ?_⟩; have n0_ := Aside0.mk (Kd.N_elder' Z118 (Kd.R_base ho0) hb); have n1_ := Aside0.mk (Kd.R_elder' Z119 (Kd.R_base ho0) hb); have n2_ := Aside0.mk (Kd.R_elder' Z11a (Kd.R_base ho0) hb); have n3_ := Aside0.mk (Kd.R_lower (Kd.R_new' (Kd.R_new' ho0 (Kd.R_lt Z119)) (Kd.R_lt Z11a)) (below_size Z11b)); have n4_ := Aside0.mk (blk_below (g := gb105) (o := .cells #[u106000, .int .i64 x106001_1] 25 (0, 0)) Z116 hb); have n5_ := Aside0.mk (blk_below (g := gb109) (o := .cells #[u110000, .int .i64 x110001_1] 25 (0, 0)) Z11c hb); have n6_ := Aside0.mk (below_step Z11b hb); clear HO_5; clear HO_106000; clear HO_110000; clear BK105; clear BK109; clear HB; have HO_5 := n0_; have HO_106000 := n1_; have HO_110000 := n2_; have HO132 := n3_; have BK105 := n4_; have BK109 := n5_; have HB := n6_; clear n0_ n1_ n2_ n3_ n4_ n5_ n6_; (try clear hb); (try clear hb2); (try clear hk); (try clear hi); (try clear ho0)))
      (try simp only [Act.put, List.setIfInBounds_toArray, List.set_cons_zero, List.set_cons_succ])
      go_cut [92] (fun v92 wc => ∃ (kq : Nat) (x92_69 : Bool), v92 = .bool x92_69 ∧ Aside0 (ashlarlaw12_WholePoint.j1 kq l0 t101 ji3 x5_1 t130 x92_69 x106000_1 x106001_1 x110000_1 x110001_1 = some r) ∧ Aside0 (kq ≤ k1) ∧ Aside0 (Kd.N k25 25 wc w.heap.size (fun k_ => some k_ ≠ (v131 : Value).ownBlock ∧ some k_ ≠ (u106000 : Value).ownBlock ∧ some k_ ≠ (u110000 : Value).ownBlock ∧ k_ ≠ gb105 ∧ k_ ≠ gb109) (.slice Ao71 x5_1.length co71) x5_1) ∧ Aside0 (Kd.R (Kd.int .i64) 2 wc w.heap.size (fun k_ => some k_ ≠ (u106000 : Value).ownBlock ∧ some k_ ≠ (u110000 : Value).ownBlock) v131 t130) ∧ Aside0 (Kd.R (Kd.int .i64) 2 wc w.heap.size (fun k_ => some k_ ≠ (v131 : Value).ownBlock ∧ some k_ ≠ (u110000 : Value).ownBlock) u106000 x106000_1) ∧ Aside0 (Kd.R (Kd.int .i64) 2 wc w.heap.size (fun k_ => some k_ ≠ (v131 : Value).ownBlock ∧ some k_ ≠ (u106000 : Value).ownBlock) u110000 x110000_1) ∧ Aside0 (wc.heap[gb105]? = some (.cells #[u106000, .int .i64 x106001_1] 25 (0, 0))) ∧ Aside0 (wc.heap[gb109]? = some (.cells #[u110000, .int .i64 x110001_1] 25 (0, 0))) ∧ Aside0 (Below w.heap.size w wc))
      case first =>
       have H := HC70.out
       clear HC70
       by_cases c73 : t129 = 1
       ·rw [if_pos c73] at H
        have c73b0 : (t129 == 1) = true := beq_iff_eq.mpr c73
        have c73b1 : (t129 != 1) = false := bne_eq_false_iff_eq.mpr c73
        clear c73
        (first | rw [c73b0] | (simp only [i64_w, i32_w]; rw [c73b0]) | skip)
        have H' := Aside0.mk H
        clear H
        obtain ⟨Ao74, co74, eo74⟩ := Kd.R_slice HO132.out
        subst eo74
        go_wp2
        go_meet
        case rel => exact ⟨_, (((t130.length : Int) != ji3)), (by first | rfl | (simp; done) | (simp only [← hji3] <;> (first | rfl | simp)) | (simp [*]; done)), H', ⟨by have := HK1.out; first | omega | exact Nat.le_refl _⟩, ⟨by (with_reducible repeat (first | apply Kd.N_alloc | apply Kd.N_drewN | apply Kd.N_drew)); exact Kd.N_mono HO_5.out (fun _ hk => ⟨hk.2, ⟨hk.1.1, ⟨hk.1.2.1, ⟨hk.1.2.2.1, hk.1.2.2.2⟩⟩⟩⟩)⟩, ⟨by (with_reducible repeat (first | apply Kd.R_alloc | apply Kd.R_drewN | apply Kd.R_drew)); exact Kd.R_mono HO132.out (fun _ hk => ⟨hk.1.2, hk.2⟩)⟩, ⟨by (with_reducible repeat (first | apply Kd.R_alloc | apply Kd.R_drewN | apply Kd.R_drew)); exact Kd.R_mono HO_106000.out (fun _ hk => ⟨hk.2, hk.1⟩)⟩, ⟨by (with_reducible repeat (first | apply Kd.R_alloc | apply Kd.R_drewN | apply Kd.R_drew)); exact Kd.R_mono HO_110000.out (fun _ hk => ⟨hk.2, hk.1⟩)⟩, ⟨by (with_reducible repeat (first | refine blk_drewN ?_ _ | refine blk_drew ?_ | refine blk_alloc ?_ _)); exact BK105.out⟩, ⟨by (with_reducible repeat (first | refine blk_drewN ?_ _ | refine blk_drew ?_ | refine blk_alloc ?_ _)); exact BK109.out⟩, ⟨by repeat (first | (with_reducible first | exact HB.out | apply below_alloc | apply pw_below_drewN | apply below_drew1 | refine below_set ?_ GE105.out | refine below_set ?_ GE109.out) | exact HB.out)⟩⟩
       ·rw [if_neg c73] at H
        have c73b0 : (t129 == 1) = false := beq_eq_false_iff_ne.mpr c73
        have c73b1 : (t129 != 1) = true := bne_iff_ne.mpr c73
        (first | rw [c73b0] | (simp only [i64_w, i32_w]; rw [c73b0]) | skip)
        have H' := Aside0.mk H
        clear H
        go_wp2
        go_meet
        case rel => exact ⟨_, (true), Z117, H', ⟨by have := HK1.out; first | omega | exact Nat.le_refl _⟩, ⟨by (with_reducible repeat (first | apply Kd.N_alloc | apply Kd.N_drewN | apply Kd.N_drew)); exact Kd.N_mono HO_5.out (fun _ hk => ⟨hk.2, ⟨hk.1.1, ⟨hk.1.2.1, ⟨hk.1.2.2.1, hk.1.2.2.2⟩⟩⟩⟩)⟩, ⟨by (with_reducible repeat (first | apply Kd.R_alloc | apply Kd.R_drewN | apply Kd.R_drew)); exact Kd.R_mono HO132.out (fun _ hk => ⟨hk.1.2, hk.2⟩)⟩, ⟨by (with_reducible repeat (first | apply Kd.R_alloc | apply Kd.R_drewN | apply Kd.R_drew)); exact Kd.R_mono HO_106000.out (fun _ hk => ⟨hk.2, hk.1⟩)⟩, ⟨by (with_reducible repeat (first | apply Kd.R_alloc | apply Kd.R_drewN | apply Kd.R_drew)); exact Kd.R_mono HO_110000.out (fun _ hk => ⟨hk.2, hk.1⟩)⟩, ⟨by (with_reducible repeat (first | refine blk_drewN ?_ _ | refine blk_drew ?_ | refine blk_alloc ?_ _)); exact BK105.out⟩, ⟨by (with_reducible repeat (first | refine blk_drewN ?_ _ | refine blk_drew ?_ | refine blk_alloc ?_ _)); exact BK109.out⟩, ⟨by repeat (first | (with_reducible first | exact HB.out | apply below_alloc | apply pw_below_drewN | apply below_drew1 | refine below_set ?_ GE105.out | refine below_set ?_ GE109.out) | exact HB.out)⟩⟩
      case rest =>
       clear HC70
       try clear c1
       try clear p1
       try clear q1
       try clear hx1
       try clear c2
       try clear p2
       try clear q2
       try clear hx2
       try clear hf2
       try clear c3
       try clear p3
       try clear q3
       try clear hx3
       try clear hf3
       try clear c4
       try clear c4b0
       try clear c4b1
       try clear c5
       try clear c5b0
       try clear c5b1
       try clear c6
       try clear p6
       try clear c7
       try clear c9
       try clear p11
       try clear q11
       try clear hx11
       try clear c16
       try clear c18
       try clear c18b0
       try clear c19
       try clear c19b0
       try clear c20
       try clear c20b0
       try clear c21
       try clear c21b0
       try clear c21b1
       try clear c22
       try clear c22b0
       try clear c22b1
       try clear c23
       try clear c23b0
       try clear p24
       try clear q24
       try clear hx24
       try clear hf24
       try clear c25
       try clear c25b0
       try clear p26
       try clear q26
       try clear hx26
       try clear hf26
       try clear c27
       try clear c28
       try clear c28b0
       try clear p29
       try clear q29
       try clear hx29
       try clear hf29
       try clear c30
       try clear c30b0
       try clear p31
       try clear q31
       try clear hx31
       try clear hf31
       try clear c36
       try clear c37
       try clear c43
       try clear c44
       try clear c45
       try clear c60
       try clear p64
       try clear c73
       try clear c73b0
       try clear c73b1
       try clear hcz11_0
       try clear hcz11_1
       try clear hcz17_0
       try clear hcz17_1
       try clear hcz38_0
       try clear hcz38_1
       try clear hcz46_0
       try clear hcz46_1
       try clear hcz48_0
       try clear hcz48_1
       try clear hcz51_0
       try clear hcz51_1
       try clear hcz54_0
       try clear hcz54_1
       try clear hcz55_0
       try clear hcz55_1
       try clear hcz61_0
       try clear hcz61_1
       try clear hcz64_0
       try clear hcz64_1
       try clear hcz67_0
       try clear hcz67_1
       try clear hcz68_0
       try clear hcz68_1
       try clear hfz11_0
       try clear hfz11_1
       try clear hfz17_0
       try clear hfz17_1
       try clear hfz38_0
       try clear hfz38_1
       try clear hfz46_0
       try clear hfz46_1
       try clear hfz48_0
       try clear hfz48_1
       try clear hfz51_0
       try clear hfz51_1
       try clear hfz54_0
       try clear hfz54_1
       try clear hfz55_0
       try clear hfz55_1
       try clear hfz61_0
       try clear hfz61_1
       try clear hfz64_0
       try clear hfz64_1
       try clear hfz67_0
       try clear hfz67_1
       try clear hfz68_0
       try clear hfz68_1
       try clear hx110_0
       try clear hx24_0
       try clear hx26_0
       try clear hx29_0
       try clear hx31_0
       try clear p110
       try clear p2
       try clear p24
       try clear p26
       try clear p29
       try clear p31
       try clear q110
       try clear q24
       try clear q26
       try clear q29
       try clear q31
       obtain ⟨kq, x92_69, rfl, HA, HJ69, HO_5, HO_13, HO_106000, HO_110000, BK105, BK109, HB⟩ := hcut
       cases kq with
       | zero => exact absurd HA.out (by simp [ashlarlaw12_WholePoint.j1])
       | succ kj69 =>
        have H := HA.out
        clear HA
        simp only [ashlarlaw12_WholePoint.j1] at H
        by_cases c75 : x92_69 = true
        ·subst c75
         have H1 : (some false) = some r := by rw [if_pos rfl] at H; exact H
         clear H
         have H := H1
         clear H1
         exact absurd (Option.some.inj H) (by rw [hrt]; decide)
        ·replace c75 := Bool.eq_false_iff.mpr c75
         subst c75
         have H1 : (ashlarlaw12_WholePoint.l1 kj69 l0 t101 ji3 x5_1 t130 0 x106000_1 x106001_1 x110000_1 x110001_1) = some r := by rw [if_neg (show ¬ (false = true) by decide)] at H; exact H
         clear H
         have H := H1
         clear H1
         have H' := Aside0.mk H
         clear H
         go_wp2
         go_loopg [14] kj69 (fun kq v14 w' => ∃ (x14_3 : Int), v14 = .int .i64 x14_3 ∧ Aside0 (ashlarlaw12_WholePoint.l1 kq l0 t101 ji3 x5_1 t130 x14_3 x106000_1 x106001_1 x110000_1 x110001_1 = some r) ∧ Aside0 (kq ≤ kj69) ∧ Aside0 (Kd.N k25 25 w' w.heap.size (fun k_ => some k_ ≠ (v131 : Value).ownBlock ∧ some k_ ≠ (u106000 : Value).ownBlock ∧ some k_ ≠ (u110000 : Value).ownBlock ∧ k_ ≠ gb105 ∧ k_ ≠ gb109) (.slice Ao71 x5_1.length co71) x5_1) ∧ Aside0 (Kd.R (Kd.int .i64) 2 w' w.heap.size (fun k_ => some k_ ≠ (u106000 : Value).ownBlock ∧ some k_ ≠ (u110000 : Value).ownBlock) v131 t130) ∧ Aside0 (Kd.R (Kd.int .i64) 2 w' w.heap.size (fun k_ => some k_ ≠ (v131 : Value).ownBlock ∧ some k_ ≠ (u110000 : Value).ownBlock) u106000 x106000_1) ∧ Aside0 (Kd.R (Kd.int .i64) 2 w' w.heap.size (fun k_ => some k_ ≠ (v131 : Value).ownBlock ∧ some k_ ≠ (u106000 : Value).ownBlock) u110000 x110000_1) ∧ Aside0 (w'.heap[gb105]? = some (.cells #[u106000, .int .i64 x106001_1] 25 (0, 0))) ∧ Aside0 (w'.heap[gb109]? = some (.cells #[u110000, .int .i64 x110001_1] 25 (0, 0))) ∧ Aside0 (Below w.heap.size w w'))
         case atStart => exact ⟨(0), Z117, H', ⟨Nat.le_refl _⟩, ⟨by (with_reducible repeat (first | apply Kd.N_alloc | apply Kd.N_drewN | apply Kd.N_drew)); exact HO_5.out⟩, ⟨by (with_reducible repeat (first | apply Kd.R_alloc | apply Kd.R_drewN | apply Kd.R_drew)); exact HO_13.out⟩, ⟨by (with_reducible repeat (first | apply Kd.R_alloc | apply Kd.R_drewN | apply Kd.R_drew)); exact HO_106000.out⟩, ⟨by (with_reducible repeat (first | apply Kd.R_alloc | apply Kd.R_drewN | apply Kd.R_drew)); exact HO_110000.out⟩, ⟨by (with_reducible repeat (first | refine blk_drewN ?_ _ | refine blk_drew ?_ | refine blk_alloc ?_ _)); exact BK105.out⟩, ⟨by (with_reducible repeat (first | refine blk_drewN ?_ _ | refine blk_drew ?_ | refine blk_alloc ?_ _)); exact BK109.out⟩, ⟨by repeat (first | (with_reducible first | exact HB.out | apply below_alloc | apply pw_below_drewN | apply below_drew1 | refine below_set ?_ GE105.out | refine below_set ?_ GE109.out) | exact HB.out)⟩⟩
         case round =>
          clear H'
          try clear c1
          try clear p1
          try clear q1
          try clear hx1
          try clear c2
          try clear p2
          try clear q2
          try clear hx2
          try clear hf2
          try clear c3
          try clear p3
          try clear q3
          try clear hx3
          try clear hf3
          try clear c4
          try clear c4b0
          try clear c4b1
          try clear c5
          try clear c5b0
          try clear c5b1
          try clear c6
          try clear p6
          try clear c7
          try clear c9
          try clear p11
          try clear q11
          try clear hx11
          try clear c16
          try clear c18
          try clear c18b0
          try clear c19
          try clear c19b0
          try clear c20
          try clear c20b0
          try clear c21
          try clear c21b0
          try clear c21b1
          try clear c22
          try clear c22b0
          try clear c22b1
          try clear c23
          try clear c23b0
          try clear p24
          try clear q24
          try clear hx24
          try clear hf24
          try clear c25
          try clear c25b0
          try clear p26
          try clear q26
          try clear hx26
          try clear hf26
          try clear c27
          try clear c28
          try clear c28b0
          try clear p29
          try clear q29
          try clear hx29
          try clear hf29
          try clear c30
          try clear c30b0
          try clear p31
          try clear q31
          try clear hx31
          try clear hf31
          try clear c36
          try clear c37
          try clear c43
          try clear c44
          try clear c45
          try clear c60
          try clear p64
          try clear c73
          try clear c73b0
          try clear c73b1
          try clear c75
          try clear hcz11_0
          try clear hcz11_1
          try clear hcz17_0
          try clear hcz17_1
          try clear hcz38_0
          try clear hcz38_1
          try clear hcz46_0
          try clear hcz46_1
          try clear hcz48_0
          try clear hcz48_1
          try clear hcz51_0
          try clear hcz51_1
          try clear hcz54_0
          try clear hcz54_1
          try clear hcz55_0
          try clear hcz55_1
          try clear hcz61_0
          try clear hcz61_1
          try clear hcz64_0
          try clear hcz64_1
          try clear hcz67_0
          try clear hcz67_1
          try clear hcz68_0
          try clear hcz68_1
          try clear hfz11_0
          try clear hfz11_1
          try clear hfz17_0
          try clear hfz17_1
          try clear hfz38_0
          try clear hfz38_1
          try clear hfz46_0
          try clear hfz46_1
          try clear hfz48_0
          try clear hfz48_1
          try clear hfz51_0
          try clear hfz51_1
          try clear hfz54_0
          try clear hfz54_1
          try clear hfz55_0
          try clear hfz55_1
          try clear hfz61_0
          try clear hfz61_1
          try clear hfz64_0
          try clear hfz64_1
          try clear hfz67_0
          try clear hfz67_1
          try clear hfz68_0
          try clear hfz68_1
          try clear hx110_0
          try clear hx24_0
          try clear hx26_0
          try clear hx29_0
          try clear hx31_0
          try clear p1
          try clear p11
          try clear p110
          try clear p2
          try clear p24
          try clear p26
          try clear p29
          try clear p3
          try clear p31
          try clear p6
          try clear p64
          try clear q1
          try clear q11
          try clear q110
          try clear q2
          try clear q24
          try clear q26
          try clear q29
          try clear q3
          try clear q31
          obtain ⟨x14_3, rfl, HA, HK3, HO_5, HO_13, HO_106000, HO_110000, BK105, BK109, HB⟩ := hrel
          cases gk with
          | zero => exact absurd HA.out (by simp [ashlarlaw12_WholePoint.l1])
          | succ k3 =>
           have H := HA.out
           clear HA
           simp only [ashlarlaw12_WholePoint.l1] at H
           by_cases c76 : x14_3 < ji3
           ·rw [if_pos c76] at H
            have c76b0 : decide (x14_3 < ji3) = true := decide_eq_true c76
            clear c76
            by_cases c77 : 0 ≤ x14_3
            ·rw [if_pos c77] at H
             have c77b0 : decide (0 ≤ x14_3) = true := decide_eq_true c77
             clear c77
             by_cases c78 : x14_3 < (t130.length : Int)
             ·rw [if_pos c78] at H
              have c78b0 : decide (x14_3 < (t130.length : Int)) = true := decide_eq_true c78
              clear c78
              by_cases c79 : x14_3 < (l0.length : Int)
              ·rw [if_pos c79] at H
               have c79b0 : decide (x14_3 < (l0.length : Int)) = true := decide_eq_true c79
               clear c79
               by_cases c80 : (rd t130 x14_3) = (Int.tmod (rd l0 x14_3) 3)
               ·rw [if_pos c80] at H
                have c80b0 : ((rd t130 x14_3) == (Int.tmod (rd l0 x14_3) 3)) = true := beq_iff_eq.mpr c80
                have c80b1 : ((rd t130 x14_3) != (Int.tmod (rd l0 x14_3) 3)) = false := bne_eq_false_iff_eq.mpr c80
                clear c80
                have H' := Aside0.mk H
                clear H
                try go_wp2
                have n0_ := Aside0.mk (Kd.N_drew HO_5.out)
                have n1_ := Aside0.mk (Kd.R_drew HO_13.out)
                have n2_ := Aside0.mk (Kd.R_drew HO_106000.out)
                have n3_ := Aside0.mk (Kd.R_drew HO_110000.out)
                have n4_ := Aside0.mk (blk_drew BK105.out)
                have n5_ := Aside0.mk (blk_drew BK109.out)
                have n6_ := Aside0.mk (below_drew1 HB.out)
                clear HO_5
                clear HO_13
                clear HO_106000
                clear HO_110000
                clear BK105
                clear BK109
                clear HB
                have HO_5 := n0_
                have HO_13 := n1_
                have HO_106000 := n2_
                have HO_110000 := n3_
                have BK105 := n4_
                have BK109 := n5_
                have HB := n6_
                clear n0_ n1_ n2_ n3_ n4_ n5_ n6_
                obtain ⟨Ao82, co82, eo82⟩ := Kd.R_slice HO_13.out
                (first | subst eo82 | (injection eo82 with f1_ f2_ f3_; have f4_ := f1_.symm; have f5_ := f3_.symm; clear f1_ f2_ f3_; subst f4_; subst f5_))
                have p133 : 0 ≤ (x14_3 : Int) := of_decide_eq_true Z112
                have q133 : x14_3 < (t130.length : Int) := of_decide_eq_true Z112
                obtain ⟨ad133, e133, hx133_0⟩ := Kd.at_int (Kd.R_reads' HO_13.out).2.2 x14_3 p133 q133
                cases e133
                replace p133 := eq_true p133
                replace q133 := eq_true q133
                have p134 : 0 ≤ (x14_3 : Int) := of_decide_eq_true Z112
                have q134 : x14_3 < (l0.length : Int) := of_decide_eq_true Z112
                obtain ⟨ad134, e134, hx134_0⟩ := Kd.at_int HR0.out x14_3 p134 q134
                have hw134_0 := hx134_0
                cases e134
                replace hx134_0 := (HB.out.cell (World.block_lt_of_cell? w _ hx134_0)).trans hx134_0
                replace p134 := eq_true p134
                replace q134 := eq_true q134
                refine start_ (n := 10) (S := fun w' => w'.cell? (ad133.add (x14_3).toNat) = some (.int .i64 (rd t130 x14_3)) ∧ w'.cell? (ad134.add (x14_3).toNat) = some (.int .i64 (rd l0 x14_3))) (ds := []) #[false, false, false, false, false, false, false, false, false, false] Z110 rfl rfl ⟨hx133_0, ((HB.out.cell (World.block_lt_of_cell? w _ hw134_0)).trans hw134_0)⟩ (fun hHeld => ?_); refine with_tabW ashlarlaw12_WholePoint.tab25 ashlarlaw12_WholePoint.bits25 (fun HT_ HW_ => ?_)
                generalize wr.drew = w81 at HO_5 HO_13 HO_106000 HO_110000 BK105 BK109 HB hx133_0 hx134_0 hHeld ⊢
                refine pure_ (i := 0) (N := some 98) (v := ?_) (a' := ?_) #[true, false, false, false, false, false, false, false, false, false] rfl rfl (any_of HT_.out Z110) (fun _ _ _ h => h) (Or.inl ⟨by rfl, ?_⟩) ?_ ?_
                rotate_left
                ·intro w'
                 go_simp
                 with_reducible rfl
                rotate_left
                ·simp only [Act.put, List.setIfInBounds_toArray, List.set_cons_zero, List.set_cons_succ, i64_w, i32_w]
                 rfl
                refine pure_ (i := 1) (N := some 99) (v := ?_) (a' := ?_) #[true, true, false, false, false, false, false, false, false, false] rfl rfl (any_of HT_.out Z110) (fun _ _ _ h => h) (Or.inl ⟨by rfl, ?_⟩) ?_ ?_
                rotate_left
                ·intro w'
                 go_simp
                 with_reducible rfl
                rotate_left
                ·simp only [Act.put, List.setIfInBounds_toArray, List.set_cons_zero, List.set_cons_succ, i64_w, i32_w]
                 rfl
                refine pure_ (i := 2) (N := some 100) (v := ?_) (a' := ?_) #[true, true, true, false, false, false, false, false, false, false] rfl rfl (any_of HT_.out Z110) (fun _ _ _ h => h) (Or.inl ⟨by rfl, ?_⟩) ?_ ?_
                rotate_left
                ·intro w'
                 go_simp
                 with_reducible rfl
                rotate_left
                ·simp only [Act.put, List.setIfInBounds_toArray, List.set_cons_zero, List.set_cons_succ, i64_w, i32_w]
                 rfl
                refine pure_ (i := 4) (N := some 102) (v := ?_) (a' := ?_) #[true, true, true, false, true, false, false, false, false, false] rfl rfl (any_of HT_.out Z110) (fun _ _ _ h => h) (Or.inl ⟨by rfl, ?_⟩) ?_ ?_
                rotate_left
                ·intro w'
                 go_simp
                 with_reducible rfl
                rotate_left
                ·simp only [Act.put, List.setIfInBounds_toArray, List.set_cons_zero, List.set_cons_succ, i64_w, i32_w]
                 rfl
                refine pure_ (i := 5) (N := some 103) (v := ?_) (a' := ?_) #[true, true, true, false, true, true, false, false, false, false] rfl rfl (any_of HT_.out Z110) (fun _ _ _ h => h) (Or.inl ⟨by rfl, ?_⟩) ?_ ?_
                rotate_left
                ·intro w'
                 go_simp
                 with_reducible rfl
                rotate_left
                ·simp only [Act.put, List.setIfInBounds_toArray, List.set_cons_zero, List.set_cons_succ, i64_w, i32_w]
                 rfl
                refine pure_ (i := 6) (N := some 104) (v := ?_) (a' := ?_) #[true, true, true, false, true, true, true, false, false, false] rfl rfl (any_of HT_.out Z110) (fun _ _ _ h => h) (Or.inl ⟨by rfl, ?_⟩) ?_ ?_
                rotate_left
                ·intro w'
                 go_simp
                 with_reducible rfl
                rotate_left
                ·simp only [Act.put, List.setIfInBounds_toArray, List.set_cons_zero, List.set_cons_succ, i64_w, i32_w]
                 rfl
                refine take_ (i := 3) (N := some 101) (v := ?_) (a' := ?_) #[true, true, true, true, true, true, true, false, false, false] rfl rfl (take_ofW HT_.out HW_.out Z110) (fun _ _ _ h => h) (Or.inl ⟨by rfl, ?_⟩) hHeld ?_ ?_
                rotate_left
                ·rintro w' ⟨s0, s1⟩
                 go_simp
                 with_reducible rfl
                rotate_left
                ·simp only [Act.put, List.setIfInBounds_toArray, List.set_cons_zero, List.set_cons_succ, i64_w, i32_w]
                 rfl
                refine take_ (i := 7) (N := some 105) (v := ?_) (a' := ?_) #[true, true, true, true, true, true, true, true, false, false] rfl rfl (take_ofW HT_.out HW_.out Z110) (fun _ _ _ h => h) (Or.inl ⟨by rfl, ?_⟩) hHeld ?_ ?_
                rotate_left
                ·rintro w' ⟨s0, s1⟩
                 go_simp
                 with_reducible rfl
                rotate_left
                ·simp only [Act.put, List.setIfInBounds_toArray, List.set_cons_zero, List.set_cons_succ, i64_w, i32_w]
                 rfl
                refine pure_ (i := 8) (N := some 106) (v := ?_) (a' := ?_) #[true, true, true, true, true, true, true, true, true, false] rfl rfl (any_of HT_.out Z110) (fun _ _ _ h => h) (Or.inl ⟨by rfl, ?_⟩) ?_ ?_
                rotate_left
                ·intro w'
                 go_simp
                 with_reducible rfl
                rotate_left
                ·simp only [Act.put, List.setIfInBounds_toArray, List.set_cons_zero, List.set_cons_succ, i64_w, i32_w]
                 rfl
                refine pure_ (i := 9) (N := some 107) (v := ?_) (a' := ?_) #[true, true, true, true, true, true, true, true, true, true] rfl rfl (any_of HT_.out Z110) (fun _ _ _ h => h) (Or.inl ⟨by rfl, ?_⟩) ?_ ?_
                rotate_left
                ·intro w'
                 go_simp
                 with_reducible rfl
                rotate_left
                ·simp only [Act.put, List.setIfInBounds_toArray, List.set_cons_zero, List.set_cons_succ, i64_w, i32_w]
                 rfl
                refine done_ (done_of HT_.out Z110) ?_
                try go_wp2
                go_roundg k3
                case measure => have := HK1.out; have := HJ69.out; have := HK3.out; omega
                case rel => exact ⟨(wrap64 (x14_3 + 1)), Z117, H', ⟨by have := HK1.out; have := HJ69.out; have := HK3.out; omega⟩, ⟨by (with_reducible repeat (first | apply Kd.N_alloc | apply Kd.N_drewN | apply Kd.N_drew)); exact HO_5.out⟩, ⟨by (with_reducible repeat (first | apply Kd.R_alloc | apply Kd.R_drewN | apply Kd.R_drew)); exact HO_13.out⟩, ⟨by (with_reducible repeat (first | apply Kd.R_alloc | apply Kd.R_drewN | apply Kd.R_drew)); exact HO_106000.out⟩, ⟨by (with_reducible repeat (first | apply Kd.R_alloc | apply Kd.R_drewN | apply Kd.R_drew)); exact HO_110000.out⟩, ⟨by (with_reducible repeat (first | refine blk_drewN ?_ _ | refine blk_drew ?_ | refine blk_alloc ?_ _)); exact BK105.out⟩, ⟨by (with_reducible repeat (first | refine blk_drewN ?_ _ | refine blk_drew ?_ | refine blk_alloc ?_ _)); exact BK109.out⟩, ⟨by repeat (first | (with_reducible first | exact HB.out | apply below_alloc | apply pw_below_drewN | apply below_drew1 | refine below_set ?_ GE105.out | refine below_set ?_ GE109.out) | exact HB.out)⟩⟩
               ·rw [if_neg c80] at H
                have c80b0 : ((rd t130 x14_3) == (Int.tmod (rd l0 x14_3) 3)) = false := beq_eq_false_iff_ne.mpr c80
                have c80b1 : ((rd t130 x14_3) != (Int.tmod (rd l0 x14_3) 3)) = true := bne_iff_ne.mpr c80
                exact absurd (Option.some.inj H) (by rw [hrt]; decide)
              ·rw [if_neg c79] at H
               exact absurd H (by simp)
             ·rw [if_neg c78] at H
              exact absurd H (by simp)
            ·rw [if_neg c77] at H
             exact absurd H (by simp)
           ·rw [if_neg c76] at H
            have c76b0 : decide (x14_3 < ji3) = false := decide_eq_false c76
            clear c76
            obtain ⟨y135, hy135⟩ : ∃ y_ : List (S25), y_ = (([] : List (S25))) := ⟨_, rfl⟩
            replace H : (if y135.length + x5_1.length < 4398046511104 then ((some (y135 ++ x5_1 : List (S25))).bind fun y138 => ((some (([(⟨x106000_1, x106001_1⟩ : S25)] : List (S25)) : List (S25))).bind fun y141 => (if y138.length + y141.length < 4398046511104 then ((whole_Solve.f (y138 ++ y141) ji3 1000).bind fun bt147 => ((some (([] : List (S25)) : List (S25))).bind fun y151 => (if y151.length + x5_1.length < 4398046511104 then ((some (y151 ++ x5_1 : List (S25))).bind fun y154 => ((some (([(⟨x110000_1, x110001_1⟩ : S25)] : List (S25)) : List (S25))).bind fun y157 => (if y154.length + y157.length < 4398046511104 then ((whole_Solve.f (y154 ++ y157) ji3 1000).bind fun bt163 => (if t101 = true then (if bt147.1 = 2 then (some (bt163.1 == 1)) else (some false)) else (some false))) else (none)))) else (none)))) else (none)))) else (none)) = some r := by first | (rw [hy135]; with_reducible exact H) | (have H2_ := (Option.bind_some _ _).symm.trans H; rw [hy135]; with_reducible exact H2_) | (have H2_ := (Option.bind_some _ _).symm.trans H; with_reducible exact H2_) | with_reducible exact H | (rw [hy135]; exact H) | exact H
            have Ny135 := Aside0.mk hy135
            clear hy135
            by_cases c85 : y135.length + x5_1.length < 4398046511104
            ·rw [if_pos c85] at H
             have LMc85 := Aside0.mk c85
             clear c85
             obtain ⟨y138, hy138⟩ : ∃ y_ : List (S25), y_ = (y135 ++ x5_1) := ⟨_, rfl⟩
             replace H : ((some (([(⟨x106000_1, x106001_1⟩ : S25)] : List (S25)) : List (S25))).bind fun y141 => (if y138.length + y141.length < 4398046511104 then ((whole_Solve.f (y138 ++ y141) ji3 1000).bind fun bt147 => ((some (([] : List (S25)) : List (S25))).bind fun y151 => (if y151.length + x5_1.length < 4398046511104 then ((some (y151 ++ x5_1 : List (S25))).bind fun y154 => ((some (([(⟨x110000_1, x110001_1⟩ : S25)] : List (S25)) : List (S25))).bind fun y157 => (if y154.length + y157.length < 4398046511104 then ((whole_Solve.f (y154 ++ y157) ji3 1000).bind fun bt163 => (if t101 = true then (if bt147.1 = 2 then (some (bt163.1 == 1)) else (some false)) else (some false))) else (none)))) else (none)))) else (none))) = some r := by first | (rw [hy138]; with_reducible exact H) | (have H2_ := (Option.bind_some _ _).symm.trans H; rw [hy138]; with_reducible exact H2_) | (have H2_ := (Option.bind_some _ _).symm.trans H; with_reducible exact H2_) | with_reducible exact H | (rw [hy138]; exact H) | exact H
             have Ny138 := Aside0.mk hy138
             clear hy138
             obtain ⟨y141, hy141⟩ : ∃ y_ : List (S25), y_ = (([(⟨x106000_1, x106001_1⟩ : S25)] : List (S25))) := ⟨_, rfl⟩
             replace H : (if y138.length + y141.length < 4398046511104 then ((whole_Solve.f (y138 ++ y141) ji3 1000).bind fun bt147 => ((some (([] : List (S25)) : List (S25))).bind fun y151 => (if y151.length + x5_1.length < 4398046511104 then ((some (y151 ++ x5_1 : List (S25))).bind fun y154 => ((some (([(⟨x110000_1, x110001_1⟩ : S25)] : List (S25)) : List (S25))).bind fun y157 => (if y154.length + y157.length < 4398046511104 then ((whole_Solve.f (y154 ++ y157) ji3 1000).bind fun bt163 => (if t101 = true then (if bt147.1 = 2 then (some (bt163.1 == 1)) else (some false)) else (some false))) else (none)))) else (none)))) else (none)) = some r := by first | (rw [hy141]; with_reducible exact H) | (have H2_ := (Option.bind_some _ _).symm.trans H; rw [hy141]; with_reducible exact H2_) | (have H2_ := (Option.bind_some _ _).symm.trans H; with_reducible exact H2_) | with_reducible exact H | (rw [hy141]; exact H) | exact H
             have Ny141 := Aside0.mk hy141
             clear hy141
             by_cases c86 : y138.length + y141.length < 4398046511104
             ·rw [if_pos c86] at H
              have LMc86 := Aside0.mk c86
              clear c86
              obtain ⟨y144, hy144⟩ : ∃ y_ : List (S25), y_ = (y138 ++ y141) := ⟨_, rfl⟩
              replace H : ((whole_Solve.f y144 ji3 1000).bind fun bt147 => ((some (([] : List (S25)) : List (S25))).bind fun y151 => (if y151.length + x5_1.length < 4398046511104 then ((some (y151 ++ x5_1 : List (S25))).bind fun y154 => ((some (([(⟨x110000_1, x110001_1⟩ : S25)] : List (S25)) : List (S25))).bind fun y157 => (if y154.length + y157.length < 4398046511104 then ((whole_Solve.f (y154 ++ y157) ji3 1000).bind fun bt163 => (if t101 = true then (if bt147.1 = 2 then (some (bt163.1 == 1)) else (some false)) else (some false))) else (none)))) else (none)))) = some r := by first | (rw [hy144]; with_reducible exact H) | (have H2_ := (Option.bind_some _ _).symm.trans H; rw [hy144]; with_reducible exact H2_) | (have H2_ := (Option.bind_some _ _).symm.trans H; with_reducible exact H2_) | with_reducible exact H | (rw [hy144]; exact H) | exact H
              have Ny144 := Aside0.mk hy144
              clear hy144
              replace H := Option.bind_eq_some_iff.mp H
              obtain ⟨⟨t147, t148⟩, A870, H⟩ := H
              replace H : ((some (([] : List (S25)) : List (S25))).bind fun y151 => (if y151.length + x5_1.length < 4398046511104 then ((some (y151 ++ x5_1 : List (S25))).bind fun y154 => ((some (([(⟨x110000_1, x110001_1⟩ : S25)] : List (S25)) : List (S25))).bind fun y157 => (if y154.length + y157.length < 4398046511104 then ((whole_Solve.f (y154 ++ y157) ji3 1000).bind fun bt163 => (if t101 = true then (if t147 = 2 then (some (bt163.1 == 1)) else (some false)) else (some false))) else (none)))) else (none))) = some r := H
              have A87 := Aside0.mk A870
              clear A870
              obtain ⟨y151, hy151⟩ : ∃ y_ : List (S25), y_ = (([] : List (S25))) := ⟨_, rfl⟩
              replace H : (if y151.length + x5_1.length < 4398046511104 then ((some (y151 ++ x5_1 : List (S25))).bind fun y154 => ((some (([(⟨x110000_1, x110001_1⟩ : S25)] : List (S25)) : List (S25))).bind fun y157 => (if y154.length + y157.length < 4398046511104 then ((whole_Solve.f (y154 ++ y157) ji3 1000).bind fun bt163 => (if t101 = true then (if t147 = 2 then (some (bt163.1 == 1)) else (some false)) else (some false))) else (none)))) else (none)) = some r := by first | (rw [hy151]; with_reducible exact H) | (have H2_ := (Option.bind_some _ _).symm.trans H; rw [hy151]; with_reducible exact H2_) | (have H2_ := (Option.bind_some _ _).symm.trans H; with_reducible exact H2_) | with_reducible exact H | (rw [hy151]; exact H) | exact H
              have Ny151 := Aside0.mk hy151
              clear hy151
              by_cases c88 : y151.length + x5_1.length < 4398046511104
              ·rw [if_pos c88] at H
               have LMc88 := Aside0.mk c88
               clear c88
               obtain ⟨y154, hy154⟩ : ∃ y_ : List (S25), y_ = (y151 ++ x5_1) := ⟨_, rfl⟩
               replace H : ((some (([(⟨x110000_1, x110001_1⟩ : S25)] : List (S25)) : List (S25))).bind fun y157 => (if y154.length + y157.length < 4398046511104 then ((whole_Solve.f (y154 ++ y157) ji3 1000).bind fun bt163 => (if t101 = true then (if t147 = 2 then (some (bt163.1 == 1)) else (some false)) else (some false))) else (none))) = some r := by first | (rw [hy154]; with_reducible exact H) | (have H2_ := (Option.bind_some _ _).symm.trans H; rw [hy154]; with_reducible exact H2_) | (have H2_ := (Option.bind_some _ _).symm.trans H; with_reducible exact H2_) | with_reducible exact H | (rw [hy154]; exact H) | exact H
               have Ny154 := Aside0.mk hy154
               clear hy154
               obtain ⟨y157, hy157⟩ : ∃ y_ : List (S25), y_ = (([(⟨x110000_1, x110001_1⟩ : S25)] : List (S25))) := ⟨_, rfl⟩
               replace H : (if y154.length + y157.length < 4398046511104 then ((whole_Solve.f (y154 ++ y157) ji3 1000).bind fun bt163 => (if t101 = true then (if t147 = 2 then (some (bt163.1 == 1)) else (some false)) else (some false))) else (none)) = some r := by first | (rw [hy157]; with_reducible exact H) | (have H2_ := (Option.bind_some _ _).symm.trans H; rw [hy157]; with_reducible exact H2_) | (have H2_ := (Option.bind_some _ _).symm.trans H; with_reducible exact H2_) | with_reducible exact H | (rw [hy157]; exact H) | exact H
               have Ny157 := Aside0.mk hy157
               clear hy157
               by_cases c89 : y154.length + y157.length < 4398046511104
               ·rw [if_pos c89] at H
                have LMc89 := Aside0.mk c89
                clear c89
                obtain ⟨y160, hy160⟩ : ∃ y_ : List (S25), y_ = (y154 ++ y157) := ⟨_, rfl⟩
                replace H : ((whole_Solve.f y160 ji3 1000).bind fun bt163 => (if t101 = true then (if t147 = 2 then (some (bt163.1 == 1)) else (some false)) else (some false))) = some r := by first | (rw [hy160]; with_reducible exact H) | (have H2_ := (Option.bind_some _ _).symm.trans H; rw [hy160]; with_reducible exact H2_) | (have H2_ := (Option.bind_some _ _).symm.trans H; with_reducible exact H2_) | with_reducible exact H | (rw [hy160]; exact H) | exact H
                have Ny160 := Aside0.mk hy160
                clear hy160
                replace H := Option.bind_eq_some_iff.mp H
                obtain ⟨⟨t163, t164⟩, A900, H⟩ := H
                replace H : (if t101 = true then (if t147 = 2 then (some (t163 == 1)) else (some false)) else (some false)) = some r := H
                have A90 := Aside0.mk A900
                clear A900
                by_cases c91 : t101 = true
                ·subst c91
                 have H1 : (if t147 = 2 then (some (t163 == 1)) else (some false)) = some r := by rw [if_pos rfl] at H; exact H
                 clear H
                 have H := H1
                 clear H1
                 by_cases c92 : t147 = 2
                 ·rw [if_pos c92] at H
                  have c92b0 : (t147 == 2) = true := beq_iff_eq.mpr c92
                  have c92b1 : (t147 != 2) = false := bne_eq_false_iff_eq.mpr c92
                  clear c92
                  have hrr := Option.some.inj H
                  have HRR := Lib.hid hrr
                  clear H hrr
                  obtain ⟨A6, c6, e6, hc6, hC6⟩ := Kd.R_reads HO_106000.out
                  obtain ⟨A7, c7, e7, hc7, hC7⟩ := Kd.R_reads HO_110000.out
                  subst e6
                  subst e7
                  obtain ⟨news, hraw, henc⟩ := Ln.raw_of Ln.row_one (Kd.F_now (Kd.N_F HO_5.out)) (by decide)
                  obtain ⟨m1, hm1⟩ : ∃ m1 : List S25, x5_1 ++ [⟨x106000_1, x106001_1⟩] = m1 := ⟨_, rfl⟩
                  obtain ⟨m2, hm2⟩ : ∃ m2 : List S25, x5_1 ++ [⟨x110000_1, x110001_1⟩] = m2 := ⟨_, rfl⟩
                  have HS1 := Lib.hid (show whole_Solve.f m1 ji3 1000 = some (t147, t148) by rw [← hm1]; have := A87.out; rw [Ny144.out, Ny138.out, Ny135.out, Ny141.out] at this; exact this)
                  have HS2 := Lib.hid (show whole_Solve.f m2 ji3 1000 = some (t163, t164) by rw [← hm2]; have := A90.out; rw [Ny160.out, Ny154.out, Ny151.out, Ny157.out] at this; exact this)
                  have HL1 := Lib.hid (show m1.length = 0 + x5_1.length + 1 by rw [← hm1, List.length_append, List.length_singleton, Nat.zero_add])
                  have HL2 := Lib.hid (show m2.length = 0 + x5_1.length + 1 by rw [← hm2, List.length_append, List.length_singleton, Nat.zero_add])
                  have HE1 := Lib.hid (fun (W : World) (hb : Below wr.heap.size wr W) => show Ln.Enc k25 W m1 ([] ++ news ++ [.slice A6 x106000_1.length c6, .int .i64 x106001_1]) by
                   rw [← hm1, List.nil_append]
                   exact (henc.below hb).app (Ln.Enc.one rfl (Ln.k25_mk W ⟨x106000_1, x106001_1⟩ (A0 := A6) (c0 := c6) hc6 (Kd.C_below hC6 hb))))
                  have HE2 := Lib.hid (fun (W : World) (hb : Below wr.heap.size wr W) => show Ln.Enc k25 W m2 ([] ++ news ++ [.slice A7 x110000_1.length c7, .int .i64 x110001_1]) by
                   rw [← hm2, List.nil_append]
                   exact (henc.below hb).app (Ln.Enc.one rfl (Ln.k25_mk W ⟨x110000_1, x110001_1⟩ (A0 := A7) (c0 := c7) hc7 (Kd.C_below hC7 hb))))
                  have HRW := Lib.hid hraw
                  have HLM := Lib.hid (show x5_1.length < 4398046511104 by have := LMc85.out; omega)
                  have HLT := Lib.hid (And.intro (blk_lt BK105.out) (blk_lt BK109.out))
                  have HBW := Lib.hid HB.out
                  have HCA := Lib.hid (show Cells [(⟨gb105, 0, none⟩, .slice A6 x106000_1.length c6), (⟨gb105, 1, none⟩, .int .i64 x106001_1)] wr from ⟨blk_cell BK105.out 0, blk_cell BK105.out 1, trivial⟩)
                  have HCB := Lib.hid (show Cells [(⟨gb109, 0, none⟩, .slice A7 x110000_1.length c7), (⟨gb109, 1, none⟩, .int .i64 x110001_1)] wr from ⟨blk_cell BK109.out 0, blk_cell BK109.out 1, trivial⟩)
                  clear hc6 hC6 hc7 hC7 hraw henc hm1 hm2 HO_5 HO_13 HO_106000 HO_110000 BK105 BK109 A87 A90
                  go_wp2_with fail
                  apply share6 (fun w5 => Below wr.heap.size wr w5)
                  ·intro hΦ
                   have HΦ := Lib.hid hΦ
                   clear hΦ
                   refine wp_region_L 12 (Hd _ wr wr.heap.size) Z110 (⟨Nat.le_refl _, HCA.out.keep (Below.refl _ _).drew, (Below.refl _ _).drew⟩) (fun hHeld => ?_)
                   refine tl1.go ?_
                   refine tl3.go ?_
                   refine tl6.go ?_
                   refine wpAnyL_ready (rs := [0, 4]) Z110 (by simp) (al0 (fun K hK => ?_) (al4 (fun K hK => ?_) (AllReadyL.nil)))
                   focus (refine sl_newh (.cells #[] 25) 0 Z110 Z11l (fun g0_ w2 hg0_ hb2 HP0 => ?_); have HG0 := Lib.hid (Nat.le_trans hHeld.size (Nat.le_of_eq hg0_.out.symm)); have HR0 := own_none (w := wr) (size := 2) HP0 HG0.out; (try have HNE := Lib.hid (show g4_ ≠ g0_ by have := hg0_.out; have := HPX.out.2; omega)); (try have HPX := hp_keep HPX hb2))
                   refine hK.out _ _ (fun _ => ?_) (fun hHeld => ?_)
                   ·exact Z11m
                   focus (have hHeld := hHeld (by decide); clear hK K; refine Zp11 ?_)
                   refine wpAnyL_ready (rs := [2, 4]) Z110 (by simp) (al2 (fun K hK => ?_) (al4 (fun K hK => ?_) (AllReadyL.nil)))
                   focus (refine step_appR rfl (.tmp 109) (.tmp 110) _ rfl wr.heap.size 25 (.agg #[.slice none 0 0, .int .i64 0]) 2 32 Try.underlying22 infoRow rfl (by decide) _ 0 [] rfl HR0.out Ao71 x5_1.length co71 news rfl (HRW.out.below hHeld.below) Z11n Z11o hHeld.size ?_; intro v1_ w4_ HV1 hg; (try have HPX := hp_grown HPX hg (fun h => HNE.out (Option.some.inj h).symm)))
                   refine hK.out _ _ (fun _ => ?_) (fun hHeld => ?_)
                   ·exact Z11p
                   focus (have hHeld := hHeld (by decide); clear hK K; refine Zp11 ?_)
                   refine wpAnyL_ready (rs := [4]) Z110 (by simp) (al4 (fun K hK => ?_) (AllReadyL.nil))
                   focus (refine sl_newh (.cells #[.slice A6 x106000_1.length c6, .int .i64 x106001_1] 25) 1 Z110 Z11l (fun g4_ w2 hg4_ hb2 HPX => ?_); (try have HNE := Lib.hid (show g4_ ≠ g0_ by have := hg4_.out; have := HP0.out.2; omega)); (try have HR0 := own_keepB HR0 hb2); (try have HV1 := own_keepB HV1 hb2); (try have HP0 := hp_keep HP0 hb2))
                   refine hK.out _ _ (fun _ => ?_) (fun hHeld => ?_)
                   ·exact Z11m
                   focus (have hHeld := hHeld (by decide); clear hK K; refine Zp11 ?_)
                   refine wpAnyL_ready (rs := [5]) Z110 (by simp) (al5 (fun K hK => ?_) (AllReadyL.nil))
                   focus (refine step_appR rfl (.tmp 111) (.tmp 113) _ rfl wr.heap.size 25 (.agg #[.slice none 0 0, .int .i64 0]) 2 32 Try.underlying22 infoRow rfl (by decide) _ (0 + x5_1.length) ([] ++ news) rfl HV1.out (some ⟨g4_, 0, none⟩) 1 1 [.slice A6 x106000_1.length c6, .int .i64 x106001_1] rfl (raw_lit HPX rfl rfl) Z11n Z11o hHeld.size ?_; intro v2_ w5_ HV2 hg2; obtain ⟨A3_, c3_, rfl, hc3_, hC3_⟩ := own_C (d := k25) HV2.out (HE1.out w5_ (Below.grown hHeld.below hg2 hHeld.size (fun k h => (HV1.out.lt k h).1))) HL1.out Z11n)
                   refine hK.out _ _ (fun _ => ?_) (fun hHeld => ?_)
                   ·exact Z11q
                   focus (have hHeld := hHeld (by decide); clear hK K; refine Zp11 ?_)
                   refine wpAnyL_ready (rs := [7]) Z110 (by simp) (al7 (fun K hK => ?_) (AllReadyL.nil))
                   focus go_simp
                   focus (rw [← HL1.out] at hc3_ hC3_; rw [show x5_1.length + 1 = m1.length from (HL1.out.trans (by rw [Nat.zero_add])).symm]; refine (whole_Solve.calls A3_ c3_ m1 ji3 1000 t147 t148 _ hC3_ hc3_ HS1.out).mono ?_; rintro e w6_ ⟨vw_, rfl, hR_, hb2⟩)
                   focus try simp only []
                   refine hK.out _ _ (fun _ => ?_) (fun hHeld => ?_)
                   ·exact Z11m
                   focus (have hHeld := hHeld (by decide); clear hK K; refine Zp11 ?_)
                   refine tl8.go ?_
                   refine tl9.go ?_
                   refine tl10.go ?_
                   refine tl11.go ?_
                   refine wpAnyL_ready (rs := [12]) Z110 (by simp) (al12 (fun K hK => ?_) (AllReadyL.nil))
                   focus go_simp
                   refine hK.out _ _ (fun h => absurd rfl h) (fun _ => ?_)
                   focus (clear hK K; refine Zp11 ?_)
                   refine wpAnyL_done Z110 ?_ _; rotate_left 1
                   focus (refine sl_newh (.cells #[.slice A6 x106000_1.length c6, .int .i64 x106001_1] 25) 1 Z110 Z11l (fun g4_ w2 hg4_ hb2 HPX => ?_); (try have HNE := Lib.hid (show g4_ ≠ g0_ by have := hg4_.out; have := HP0.out.2; omega)); (try have HR0 := own_keepB HR0 hb2); (try have HV1 := own_keepB HV1 hb2); (try have HP0 := hp_keep HP0 hb2))
                   refine hK.out _ _ (fun _ => ?_) (fun hHeld => ?_)
                   ·exact Z11m
                   focus (have hHeld := hHeld (by decide); clear hK K; refine Zp11 ?_)
                   refine wpAnyL_ready (rs := [2]) Z110 (by simp) (al2 (fun K hK => ?_) (AllReadyL.nil))
                   focus (refine step_appR rfl (.tmp 109) (.tmp 110) _ rfl wr.heap.size 25 (.agg #[.slice none 0 0, .int .i64 0]) 2 32 Try.underlying22 infoRow rfl (by decide) _ 0 [] rfl HR0.out Ao71 x5_1.length co71 news rfl (HRW.out.below hHeld.below) Z11n Z11o hHeld.size ?_; intro v1_ w4_ HV1 hg; (try have HPX := hp_grown HPX hg (fun h => HNE.out (Option.some.inj h).symm)))
                   refine hK.out _ _ (fun _ => ?_) (fun hHeld => ?_)
                   ·exact Z11p
                   focus (have hHeld := hHeld (by decide); clear hK K; refine Zp11 ?_)
                   refine wpAnyL_ready (rs := [5]) Z110 (by simp) (al5 (fun K hK => ?_) (AllReadyL.nil))
                   focus (refine step_appR rfl (.tmp 111) (.tmp 113) _ rfl wr.heap.size 25 (.agg #[.slice none 0 0, .int .i64 0]) 2 32 Try.underlying22 infoRow rfl (by decide) _ (0 + x5_1.length) ([] ++ news) rfl HV1.out (some ⟨g4_, 0, none⟩) 1 1 [.slice A6 x106000_1.length c6, .int .i64 x106001_1] rfl (raw_lit HPX rfl rfl) Z11n Z11o hHeld.size ?_; intro v2_ w5_ HV2 hg2; obtain ⟨A3_, c3_, rfl, hc3_, hC3_⟩ := own_C (d := k25) HV2.out (HE1.out w5_ (Below.grown hHeld.below hg2 hHeld.size (fun k h => (HV1.out.lt k h).1))) HL1.out Z11n)
                   refine hK.out _ _ (fun _ => ?_) (fun hHeld => ?_)
                   ·exact Z11q
                   focus (have hHeld := hHeld (by decide); clear hK K; refine Zp11 ?_)
                   refine wpAnyL_ready (rs := [7]) Z110 (by simp) (al7 (fun K hK => ?_) (AllReadyL.nil))
                   focus go_simp
                   focus (rw [← HL1.out] at hc3_ hC3_; rw [show x5_1.length + 1 = m1.length from (HL1.out.trans (by rw [Nat.zero_add])).symm]; refine (whole_Solve.calls A3_ c3_ m1 ji3 1000 t147 t148 _ hC3_ hc3_ HS1.out).mono ?_; rintro e w6_ ⟨vw_, rfl, hR_, hb2⟩)
                   focus try simp only []
                   refine hK.out _ _ (fun _ => ?_) (fun hHeld => ?_)
                   ·exact Z11m
                   focus (have hHeld := hHeld (by decide); clear hK K; refine Zp11 ?_)
                   refine tl8.go ?_
                   refine tl9.go ?_
                   refine tl10.go ?_
                   refine tl11.go ?_
                   refine wpAnyL_ready (rs := [12]) Z110 (by simp) (al12 (fun K hK => ?_) (AllReadyL.nil))
                   focus go_simp
                   refine hK.out _ _ (fun h => absurd rfl h) (fun _ => ?_)
                   focus (clear hK K; refine Zp11 ?_)
                   refine wpAnyL_done Z110 ?_ _; rotate_left 1
                   focus (refine sl_newh (.cells #[.slice A6 x106000_1.length c6, .int .i64 x106001_1] 25) 1 Z110 Z11l (fun g4_ w2 hg4_ hb2 HPX => ?_); (try have HNE := Lib.hid (show g4_ ≠ g0_ by have := hg4_.out; have := HP0.out.2; omega)); (try have HR0 := own_keepB HR0 hb2); (try have HV1 := own_keepB HV1 hb2); (try have HP0 := hp_keep HP0 hb2))
                   refine hK.out _ _ (fun _ => ?_) (fun hHeld => ?_)
                   ·exact Z11m
                   focus (have hHeld := hHeld (by decide); clear hK K; refine Zp11 ?_)
                   refine wpAnyL_ready (rs := [0]) Z110 (by simp) (al0 (fun K hK => ?_) (AllReadyL.nil))
                   focus (refine sl_newh (.cells #[] 25) 0 Z110 Z11l (fun g0_ w2 hg0_ hb2 HP0 => ?_); have HG0 := Lib.hid (Nat.le_trans hHeld.size (Nat.le_of_eq hg0_.out.symm)); have HR0 := own_none (w := wr) (size := 2) HP0 HG0.out; (try have HNE := Lib.hid (show g4_ ≠ g0_ by have := hg0_.out; have := HPX.out.2; omega)); (try have HPX := hp_keep HPX hb2))
                   refine hK.out _ _ (fun _ => ?_) (fun hHeld => ?_)
                   ·exact Z11m
                   focus (have hHeld := hHeld (by decide); clear hK K; refine Zp11 ?_)
                   refine wpAnyL_ready (rs := [2]) Z110 (by simp) (al2 (fun K hK => ?_) (AllReadyL.nil))
                   focus (refine step_appR rfl (.tmp 109) (.tmp 110) _ rfl wr.heap.size 25 (.agg #[.slice none 0 0, .int .i64 0]) 2 32 Try.underlying22 infoRow rfl (by decide) _ 0 [] rfl HR0.out Ao71 x5_1.length co71 news rfl (HRW.out.below hHeld.below) Z11n Z11o hHeld.size ?_; intro v1_ w4_ HV1 hg; (try have HPX := hp_grown HPX hg (fun h => HNE.out (Option.some.inj h).symm)))
                   refine hK.out _ _ (fun _ => ?_) (fun hHeld => ?_)
                   ·exact Z11p
                   focus (have hHeld := hHeld (by decide); clear hK K; refine Zp11 ?_)
                   refine wpAnyL_ready (rs := [5]) Z110 (by simp) (al5 (fun K hK => ?_) (AllReadyL.nil))
                   focus (refine step_appR rfl (.tmp 111) (.tmp 113) _ rfl wr.heap.size 25 (.agg #[.slice none 0 0, .int .i64 0]) 2 32 Try.underlying22 infoRow rfl (by decide) _ (0 + x5_1.length) ([] ++ news) rfl HV1.out (some ⟨g4_, 0, none⟩) 1 1 [.slice A6 x106000_1.length c6, .int .i64 x106001_1] rfl (raw_lit HPX rfl rfl) Z11n Z11o hHeld.size ?_; intro v2_ w5_ HV2 hg2; obtain ⟨A3_, c3_, rfl, hc3_, hC3_⟩ := own_C (d := k25) HV2.out (HE1.out w5_ (Below.grown hHeld.below hg2 hHeld.size (fun k h => (HV1.out.lt k h).1))) HL1.out Z11n)
                   refine hK.out _ _ (fun _ => ?_) (fun hHeld => ?_)
                   ·exact Z11q
                   focus (have hHeld := hHeld (by decide); clear hK K; refine Zp11 ?_)
                   refine wpAnyL_ready (rs := [7]) Z110 (by simp) (al7 (fun K hK => ?_) (AllReadyL.nil))
                   focus go_simp
                   focus (rw [← HL1.out] at hc3_ hC3_; rw [show x5_1.length + 1 = m1.length from (HL1.out.trans (by rw [Nat.zero_add])).symm]; refine (whole_Solve.calls A3_ c3_ m1 ji3 1000 t147 t148 _ hC3_ hc3_ HS1.out).mono ?_; rintro e w6_ ⟨vw_, rfl, hR_, hb2⟩)
                   focus try simp only []
                   refine hK.out _ _ (fun _ => ?_) (fun hHeld => ?_)
                   ·exact Z11m
                   focus (have hHeld := hHeld (by decide); clear hK K; refine Zp11 ?_)
                   refine tl8.go ?_
                   refine tl9.go ?_
                   refine tl10.go ?_
                   refine tl11.go ?_
                   refine wpAnyL_ready (rs := [12]) Z110 (by simp) (al12 (fun K hK => ?_) (AllReadyL.nil))
                   focus go_simp
                   refine hK.out _ _ (fun h => absurd rfl h) (fun _ => ?_)
                   focus (clear hK K; refine Zp11 ?_)
                   refine wpAnyL_done Z110 ?_ _; rotate_left 1
                   all_goals exact HΦ.out g0_ v1_ g4_ A3_ c3_ vw_ w6_ hHeld.below
                  ·intro g0 v1 g4 A3 c3 vw w5 hf
                   have HB5 := Lib.hid hf
                   have HCB5 := Lib.hid (HCB.out.keep hf)
                   have HLT5 := Lib.hid (Nat.lt_of_lt_of_le HLT.out.2 hf.size)
                   clear hf
                   go_wp2_with fail
                   apply share6 (fun w7 => Below w5.heap.size w5 w7)
                   ·intro hΦ
                    have HΦ := Lib.hid hΦ
                    clear hΦ
                    refine wp_region_L 12 (Hd _ w5 w5.heap.size) Z110 (⟨Nat.le_refl _, HCB5.out.keep (Below.refl _ _).drew, (Below.refl _ _).drew⟩) (fun hHeld => ?_)
                    refine tl1.go ?_
                    refine tl3.go ?_
                    refine tl6.go ?_
                    refine wpAnyL_ready (rs := [0, 4]) Z110 (by simp) (al0 (fun K hK => ?_) (al4 (fun K hK => ?_) (AllReadyL.nil)))
                    focus (refine sl_newh (.cells #[] 25) 0 Z110 Z11l (fun g0_ w2 hg0_ hb2 HP0 => ?_); have HG0 := Lib.hid (Nat.le_trans hHeld.size (Nat.le_of_eq hg0_.out.symm)); have HR0 := own_none (w := w5) (size := 2) HP0 HG0.out; (try have HNE := Lib.hid (show g4_ ≠ g0_ by have := hg0_.out; have := HPX.out.2; omega)); (try have HPX := hp_keep HPX hb2))
                    refine hK.out _ _ (fun _ => ?_) (fun hHeld => ?_)
                    ·exact Z11m
                    focus (have hHeld := hHeld (by decide); clear hK K; refine Zp11 ?_)
                    refine wpAnyL_ready (rs := [2, 4]) Z110 (by simp) (al2 (fun K hK => ?_) (al4 (fun K hK => ?_) (AllReadyL.nil)))
                    focus (refine step_appR rfl (.tmp 120) (.tmp 121) _ rfl w5.heap.size 25 (.agg #[.slice none 0 0, .int .i64 0]) 2 32 Try.underlying22 infoRow rfl (by decide) _ 0 [] rfl HR0.out Ao71 x5_1.length co71 news rfl (HRW.out.below (HB5.out.trans (hHeld.below.mono HB5.out.size))) Z11n Z11o hHeld.size ?_; intro v1_ w4_ HV1 hg; (try have HPX := hp_grown HPX hg (fun h => HNE.out (Option.some.inj h).symm)))
                    refine hK.out _ _ (fun _ => ?_) (fun hHeld => ?_)
                    ·exact Z11r
                    focus (have hHeld := hHeld (by decide); clear hK K; refine Zp11 ?_)
                    refine wpAnyL_ready (rs := [4]) Z110 (by simp) (al4 (fun K hK => ?_) (AllReadyL.nil))
                    focus (refine sl_newh (.cells #[.slice A7 x110000_1.length c7, .int .i64 x110001_1] 25) 1 Z110 Z11l (fun g4_ w2 hg4_ hb2 HPX => ?_); (try have HNE := Lib.hid (show g4_ ≠ g0_ by have := hg4_.out; have := HP0.out.2; omega)); (try have HR0 := own_keepB HR0 hb2); (try have HV1 := own_keepB HV1 hb2); (try have HP0 := hp_keep HP0 hb2))
                    refine hK.out _ _ (fun _ => ?_) (fun hHeld => ?_)
                    ·exact Z11m
                    focus (have hHeld := hHeld (by decide); clear hK K; refine Zp11 ?_)
                    refine wpAnyL_ready (rs := [5]) Z110 (by simp) (al5 (fun K hK => ?_) (AllReadyL.nil))
                    focus (refine step_appR rfl (.tmp 122) (.tmp 124) _ rfl w5.heap.size 25 (.agg #[.slice none 0 0, .int .i64 0]) 2 32 Try.underlying22 infoRow rfl (by decide) _ (0 + x5_1.length) ([] ++ news) rfl HV1.out (some ⟨g4_, 0, none⟩) 1 1 [.slice A7 x110000_1.length c7, .int .i64 x110001_1] rfl (raw_lit HPX rfl rfl) Z11n Z11o hHeld.size ?_; intro v2_ w6_ HV2 hg2; obtain ⟨A3_, c3_, rfl, hc3_, hC3_⟩ := own_C (d := k25) HV2.out (HE2.out w6_ (HB5.out.trans ((Below.grown hHeld.below hg2 hHeld.size (fun k h => (HV1.out.lt k h).1)).mono HB5.out.size))) HL2.out Z11n)
                    refine hK.out _ _ (fun _ => ?_) (fun hHeld => ?_)
                    ·exact Z11s
                    focus (have hHeld := hHeld (by decide); clear hK K; refine Zp11 ?_)
                    refine wpAnyL_ready (rs := [7]) Z110 (by simp) (al7 (fun K hK => ?_) (AllReadyL.nil))
                    focus go_simp
                    focus (rw [← HL2.out] at hc3_ hC3_; rw [show x5_1.length + 1 = m2.length from (HL2.out.trans (by rw [Nat.zero_add])).symm]; refine (whole_Solve.calls A3_ c3_ m2 ji3 1000 t163 t164 _ hC3_ hc3_ HS2.out).mono ?_; rintro e w7_ ⟨vw_, rfl, hR_, hb2⟩)
                    focus try simp only []
                    refine hK.out _ _ (fun _ => ?_) (fun hHeld => ?_)
                    ·exact Z11m
                    focus (have hHeld := hHeld (by decide); clear hK K; refine Zp11 ?_)
                    refine tl8.go ?_
                    refine tl9.go ?_
                    refine tl10.go ?_
                    refine tl11.go ?_
                    refine wpAnyL_ready (rs := [12]) Z110 (by simp) (al12 (fun K hK => ?_) (AllReadyL.nil))
                    focus go_simp
                    refine hK.out _ _ (fun h => absurd rfl h) (fun _ => ?_)
                    focus (clear hK K; refine Zp11 ?_)
                    refine wpAnyL_done Z110 ?_ _; rotate_left 1
                    focus (refine sl_newh (.cells #[.slice A7 x110000_1.length c7, .int .i64 x110001_1] 25) 1 Z110 Z11l (fun g4_ w2 hg4_ hb2 HPX => ?_); (try have HNE := Lib.hid (show g4_ ≠ g0_ by have := hg4_.out; have := HP0.out.2; omega)); (try have HR0 := own_keepB HR0 hb2); (try have HV1 := own_keepB HV1 hb2); (try have HP0 := hp_keep HP0 hb2))
                    refine hK.out _ _ (fun _ => ?_) (fun hHeld => ?_)
                    ·exact Z11m
                    focus (have hHeld := hHeld (by decide); clear hK K; refine Zp11 ?_)
                    refine wpAnyL_ready (rs := [2]) Z110 (by simp) (al2 (fun K hK => ?_) (AllReadyL.nil))
                    focus (refine step_appR rfl (.tmp 120) (.tmp 121) _ rfl w5.heap.size 25 (.agg #[.slice none 0 0, .int .i64 0]) 2 32 Try.underlying22 infoRow rfl (by decide) _ 0 [] rfl HR0.out Ao71 x5_1.length co71 news rfl (HRW.out.below (HB5.out.trans (hHeld.below.mono HB5.out.size))) Z11n Z11o hHeld.size ?_; intro v1_ w4_ HV1 hg; (try have HPX := hp_grown HPX hg (fun h => HNE.out (Option.some.inj h).symm)))
                    refine hK.out _ _ (fun _ => ?_) (fun hHeld => ?_)
                    ·exact Z11r
                    focus (have hHeld := hHeld (by decide); clear hK K; refine Zp11 ?_)
                    refine wpAnyL_ready (rs := [5]) Z110 (by simp) (al5 (fun K hK => ?_) (AllReadyL.nil))
                    focus (refine step_appR rfl (.tmp 122) (.tmp 124) _ rfl w5.heap.size 25 (.agg #[.slice none 0 0, .int .i64 0]) 2 32 Try.underlying22 infoRow rfl (by decide) _ (0 + x5_1.length) ([] ++ news) rfl HV1.out (some ⟨g4_, 0, none⟩) 1 1 [.slice A7 x110000_1.length c7, .int .i64 x110001_1] rfl (raw_lit HPX rfl rfl) Z11n Z11o hHeld.size ?_; intro v2_ w6_ HV2 hg2; obtain ⟨A3_, c3_, rfl, hc3_, hC3_⟩ := own_C (d := k25) HV2.out (HE2.out w6_ (HB5.out.trans ((Below.grown hHeld.below hg2 hHeld.size (fun k h => (HV1.out.lt k h).1)).mono HB5.out.size))) HL2.out Z11n)
                    refine hK.out _ _ (fun _ => ?_) (fun hHeld => ?_)
                    ·exact Z11s
                    focus (have hHeld := hHeld (by decide); clear hK K; refine Zp11 ?_)
                    refine wpAnyL_ready (rs := [7]) Z110 (by simp) (al7 (fun K hK => ?_) (AllReadyL.nil))
                    focus go_simp
                    focus (rw [← HL2.out] at hc3_ hC3_; rw [show x5_1.length + 1 = m2.length from (HL2.out.trans (by rw [Nat.zero_add])).symm]; refine (whole_Solve.calls A3_ c3_ m2 ji3 1000 t163 t164 _ hC3_ hc3_ HS2.out).mono ?_; rintro e w7_ ⟨vw_, rfl, hR_, hb2⟩)
                    focus try simp only []
                    refine hK.out _ _ (fun _ => ?_) (fun hHeld => ?_)
                    ·exact Z11m
                    focus (have hHeld := hHeld (by decide); clear hK K; refine Zp11 ?_)
                    refine tl8.go ?_
                    refine tl9.go ?_
                    refine tl10.go ?_
                    refine tl11.go ?_
                    refine wpAnyL_ready (rs := [12]) Z110 (by simp) (al12 (fun K hK => ?_) (AllReadyL.nil))
                    focus go_simp
                    refine hK.out _ _ (fun h => absurd rfl h) (fun _ => ?_)
                    focus (clear hK K; refine Zp11 ?_)
                    refine wpAnyL_done Z110 ?_ _; rotate_left 1
                    focus (refine sl_newh (.cells #[.slice A7 x110000_1.length c7, .int .i64 x110001_1] 25) 1 Z110 Z11l (fun g4_ w2 hg4_ hb2 HPX => ?_); (try have HNE := Lib.hid (show g4_ ≠ g0_ by have := hg4_.out; have := HP0.out.2; omega)); (try have HR0 := own_keepB HR0 hb2); (try have HV1 := own_keepB HV1 hb2); (try have HP0 := hp_keep HP0 hb2))
                    refine hK.out _ _ (fun _ => ?_) (fun hHeld => ?_)
                    ·exact Z11m
                    focus (have hHeld := hHeld (by decide); clear hK K; refine Zp11 ?_)
                    refine wpAnyL_ready (rs := [0]) Z110 (by simp) (al0 (fun K hK => ?_) (AllReadyL.nil))
                    focus (refine sl_newh (.cells #[] 25) 0 Z110 Z11l (fun g0_ w2 hg0_ hb2 HP0 => ?_); have HG0 := Lib.hid (Nat.le_trans hHeld.size (Nat.le_of_eq hg0_.out.symm)); have HR0 := own_none (w := w5) (size := 2) HP0 HG0.out; (try have HNE := Lib.hid (show g4_ ≠ g0_ by have := hg0_.out; have := HPX.out.2; omega)); (try have HPX := hp_keep HPX hb2))
                    refine hK.out _ _ (fun _ => ?_) (fun hHeld => ?_)
                    ·exact Z11m
                    focus (have hHeld := hHeld (by decide); clear hK K; refine Zp11 ?_)
                    refine wpAnyL_ready (rs := [2]) Z110 (by simp) (al2 (fun K hK => ?_) (AllReadyL.nil))
                    focus (refine step_appR rfl (.tmp 120) (.tmp 121) _ rfl w5.heap.size 25 (.agg #[.slice none 0 0, .int .i64 0]) 2 32 Try.underlying22 infoRow rfl (by decide) _ 0 [] rfl HR0.out Ao71 x5_1.length co71 news rfl (HRW.out.below (HB5.out.trans (hHeld.below.mono HB5.out.size))) Z11n Z11o hHeld.size ?_; intro v1_ w4_ HV1 hg; (try have HPX := hp_grown HPX hg (fun h => HNE.out (Option.some.inj h).symm)))
                    refine hK.out _ _ (fun _ => ?_) (fun hHeld => ?_)
                    ·exact Z11r
                    focus (have hHeld := hHeld (by decide); clear hK K; refine Zp11 ?_)
                    refine wpAnyL_ready (rs := [5]) Z110 (by simp) (al5 (fun K hK => ?_) (AllReadyL.nil))
                    focus (refine step_appR rfl (.tmp 122) (.tmp 124) _ rfl w5.heap.size 25 (.agg #[.slice none 0 0, .int .i64 0]) 2 32 Try.underlying22 infoRow rfl (by decide) _ (0 + x5_1.length) ([] ++ news) rfl HV1.out (some ⟨g4_, 0, none⟩) 1 1 [.slice A7 x110000_1.length c7, .int .i64 x110001_1] rfl (raw_lit HPX rfl rfl) Z11n Z11o hHeld.size ?_; intro v2_ w6_ HV2 hg2; obtain ⟨A3_, c3_, rfl, hc3_, hC3_⟩ := own_C (d := k25) HV2.out (HE2.out w6_ (HB5.out.trans ((Below.grown hHeld.below hg2 hHeld.size (fun k h => (HV1.out.lt k h).1)).mono HB5.out.size))) HL2.out Z11n)
                    refine hK.out _ _ (fun _ => ?_) (fun hHeld => ?_)
                    ·exact Z11s
                    focus (have hHeld := hHeld (by decide); clear hK K; refine Zp11 ?_)
                    refine wpAnyL_ready (rs := [7]) Z110 (by simp) (al7 (fun K hK => ?_) (AllReadyL.nil))
                    focus go_simp
                    focus (rw [← HL2.out] at hc3_ hC3_; rw [show x5_1.length + 1 = m2.length from (HL2.out.trans (by rw [Nat.zero_add])).symm]; refine (whole_Solve.calls A3_ c3_ m2 ji3 1000 t163 t164 _ hC3_ hc3_ HS2.out).mono ?_; rintro e w7_ ⟨vw_, rfl, hR_, hb2⟩)
                    focus try simp only []
                    refine hK.out _ _ (fun _ => ?_) (fun hHeld => ?_)
                    ·exact Z11m
                    focus (have hHeld := hHeld (by decide); clear hK K; refine Zp11 ?_)
                    refine tl8.go ?_
                    refine tl9.go ?_
                    refine tl10.go ?_
                    refine tl11.go ?_
                    refine wpAnyL_ready (rs := [12]) Z110 (by simp) (al12 (fun K hK => ?_) (AllReadyL.nil))
                    focus go_simp
                    refine hK.out _ _ (fun h => absurd rfl h) (fun _ => ?_)
                    focus (clear hK K; refine Zp11 ?_)
                    refine wpAnyL_done Z110 ?_ _; rotate_left 1
                    all_goals exact HΦ.out g0_ v1_ g4_ A3_ c3_ vw_ w7_ hHeld.below
                   ·intro g0' v1' g4' A3' c3' vw' w7 hf
                    have HB7 := Lib.hid (HBW.out.trans ((HB5.out.trans (hf.mono HB5.out.size)).mono HBW.out.size))
                    clear hf
                    go_wp2
                    go_ret
                    exact ⟨by rw [← HRR.out]; first | rfl | (simp; done), HB7.out⟩
                 ·rw [if_neg c92] at H
                  have c92b0 : (t147 == 2) = false := beq_eq_false_iff_ne.mpr c92
                  have c92b1 : (t147 != 2) = true := bne_iff_ne.mpr c92
                  exact absurd (Option.some.inj H) (by rw [hrt]; decide)
                ·replace c91 := Bool.eq_false_iff.mpr c91
                 subst c91
                 have H1 : (some false) = some r := by rw [if_neg (show ¬ (false = true) by decide)] at H; exact H
                 clear H
                 have H := H1
                 clear H1
                 exact absurd (Option.some.inj H) (by rw [hrt]; decide)
               ·rw [if_neg c89] at H
                exact absurd H (by simp)
              ·rw [if_neg c88] at H
               exact absurd H (by simp)
             ·rw [if_neg c86] at H
              exact absurd H (by simp)
            ·rw [if_neg c85] at H
             exact absurd H (by simp)
  ·rw [if_neg c5] at H
   exact absurd H (by simp)
 ·rw [if_neg c4] at H
  exact absurd H (by simp)
def ashlarlaw12_WholePoint.Pure : Prop := ∀ (l0 : List Int), l0.length ≤ maxLen → l0.length * 8 ≤ 140737488351232 → (∀ x ∈ l0, (Lit.int .i64 x).wf = true) → ∃ k, ashlarlaw12_WholePoint.f k l0 = some true
theorem ashlarlaw12_WholePoint.walk (P : ashlarlaw12_WholePoint.Pure) (a0 : Option Addr) (len0 cap0 : Nat) (z0 : List Int) (w : World) (w0 : (a0 = none ∧ len0 = 0 ∧ cap0 = 0 ∧ z0 = []) ∨ ∃ x, a0 = some x ∧ len0 ≤ cap0 ∧ cap0 ≤ maxLen ∧ z0.length = cap0 ∧ (∀ i, i < z0.length → w.cell? (x.add i) = some (.int .i64 (z0.getD i 0))) ∧ ∀ n ∈ z0, (Lit.int .i64 n).wf = true) (y0 : len0 * 8 ≤ 140737488351232) :
  Calls Try.prog 5 #[.slice a0 len0 cap0] w fun e w' => e = .returned (.bool true) ∧ Below w.heap.size w w' := by
 obtain ⟨l0, rfl, hr0, hm0, hw0, hc0⟩ := ReadsInt.ofRowC w0
 obtain ⟨k, h⟩ := P l0 hm0 y0 hw0
 refine (ashlarlaw12_WholePoint.calls k _ _ l0 true w rfl (Kd.C_of_reads (d := (0 : Int)) (h1 := fun _ => rfl) hr0) hc0 h).mono ?_
 rintro e w' ⟨rfl, hd⟩
 exact ⟨rfl, hd⟩
end Go.Proofs.Ytmcfcmijopbinaa.PWholePoint
