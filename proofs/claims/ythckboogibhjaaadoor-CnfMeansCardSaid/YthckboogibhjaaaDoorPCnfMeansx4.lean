-- Written by a program of this session (myprint.py) out of the translation, with contracts of this session given.
import Derived.Test.YthckboogibhjaaaDoorPCnfMeansx0
import Derived.Test.YthckboogibhjaaaDoorPCnfMeansx1
import Derived.Test.YthckboogibhjaaaDoorPCnfMeansx3
namespace Go.Proofs.YthckboogibhjaaaDoor.PCnfMeans
open Go.RowKit Go.Proofs.YthckboogibhjaaaDoor.Trm Go.Proofs.YthckboogibhjaaaDoorW.PrintWords Go.Proofs.YthckboogibhjaaaDoorW.PrintLast Go.Proofs.YthckboogibhjaaaDoorW.PrintMore
attribute [local go_sem] max2_int min2_int max_two min_two max_three min_three max_four min_four   -- for this text's walks alone
set_option linter.unusedVariables false
set_option linter.unusedSimpArgs false

/-! ### ashlarlaw07_CnfMeans: function 4 -/
mutual
def ashlarlaw07_CnfMeans.j0 : Nat → Bool → List (List Int) → List (S24) → Int → Bool → Int → ByteArray → Int → List (S24) → Option (Bool)
  | 0, _, _, _, _, _, _, _, _, _ => none
  | k + 1, x3, x4, x5, x6, x39, x133000, x133001, x133002, x133003 => if x39 = true then (some x3) else (ashlarlaw07_CnfMeans.l0 k x3 x4 x5 x6 0 x133000 x133001 x133002 x133003)
def ashlarlaw07_CnfMeans.l0 : Nat → Bool → List (List Int) → List (S24) → Int → Int → Int → ByteArray → Int → List (S24) → Option (Bool)
  | 0, _, _, _, _, _, _, _, _, _ => none
  | k + 1, x3, x4, x5, x6, x8, x133000, x133001, x133002, x133003 => if 0 ≤ (IntKind.u64.wrap ((x5.length : Int))) then (if x8 < (shl .u64 1 (IntKind.u64.wrap ((x5.length : Int)))) then (if 0 ≤ (wrap64 (x6 + 1)) then (if (wrap64 (x6 + 1) : Int).toNat ≤ 281474976710656 then (ashlarlaw07_CnfMeans.l1 k x3 x4 x5 x6 x8 (List.replicate (wrap64 (x6 + 1) : Int).toNat false) 0 x133000 x133001 x133002 x133003) else (none)) else (none)) else (some x3)) else (none)
def ashlarlaw07_CnfMeans.l1 : Nat → Bool → List (List Int) → List (S24) → Int → Int → List Bool → Int → Int → ByteArray → Int → List (S24) → Option (Bool)
  | 0, _, _, _, _, _, _, _, _, _, _, _ => none
  | k + 1, x3, x4, x5, x6, x8, x9, x10, x133000, x133001, x133002, x133003 => if x10 < (x5.length : Int) then (if 0 ≤ (IntKind.u64.wrap (x10)) then (if 0 ≤ (wrap64 (x10 + 1)) then (if (wrap64 (x10 + 1)) < (x9.length : Int) then (ashlarlaw07_CnfMeans.l1 k x3 x4 x5 x6 x8 (x9.set ((wrap64 (x10 + 1)) : Int).toNat ((Go.bits .and .u64 (shr .u64 x8 (IntKind.u64.wrap (x10))) 1) == 1)) (wrap64 (x10 + 1)) x133000 x133001 x133002 x133003) else (none)) else (none)) else (none)) else (ashlarlaw07_CnfMeans.l2 k x3 x4 x5 x6 x8 x9 (wrap64 ((x5.length : Int) + 1)) x133000 x133001 x133002 x133003)
def ashlarlaw07_CnfMeans.l2 : Nat → Bool → List (List Int) → List (S24) → Int → Int → List Bool → Int → Int → ByteArray → Int → List (S24) → Option (Bool)
  | 0, _, _, _, _, _, _, _, _, _, _, _ => none
  | k + 1, x3, x4, x5, x6, x8, x9, x11, x133000, x133001, x133002, x133003 => if x11 ≤ x6 then (ashlarlaw07_CnfMeans.l3 k x3 x4 x5 x6 x8 x9 x11 0 false 0 x133000 x133001 x133002 x133003) else (if 0 ≤ (wrap64 ((x4.length : Int) - 1)) then (if (wrap64 ((x4.length : Int) - 1)) ≤ (x4.length : Int) then ((ashlarlaw07_known.f k (x4.take ((wrap64 ((x4.length : Int) - 1)) : Int).toNat) x9 x6).bind fun t160 => (if t160 = true then (if (wrap64 ((x4.length : Int) - 1)) < (x4.length : Int) then ((ashlarlaw07_holds.f k (rd_L2 x4 (wrap64 ((x4.length : Int) - 1))) x9).bind fun t162 => ((ashlarlaw07_truth.f k x5 x8 x133000 x133001 x133002 x133003).bind fun t163 => (if (t162 != t163) = true then (some false) else (ashlarlaw07_CnfMeans.l0 k x3 x4 x5 x6 (IntKind.u64.wrap (x8 + 1)) x133000 x133001 x133002 x133003)))) else (none)) else (some false))) else (none)) else (none))
def ashlarlaw07_CnfMeans.l3 : Nat → Bool → List (List Int) → List (S24) → Int → Int → List Bool → Int → Int → Bool → Int → Int → ByteArray → Int → List (S24) → Option (Bool)
  | 0, _, _, _, _, _, _, _, _, _, _, _, _, _, _ => none
  | k + 1, x3, x4, x5, x6, x8, x9, x11, x12, x13, x14, x133000, x133001, x133002, x133003 => if x14 < 2 then (if 0 ≤ x11 then (if x11 < (x9.length : Int) then ((some (x9.set (x11 : Int).toNat (x14 == 1) : List Bool)).bind fun y146 => (if 0 ≤ (wrap64 ((x4.length : Int) - 1)) then (if (wrap64 ((x4.length : Int) - 1)) ≤ (x4.length : Int) then ((ashlarlaw07_known.f k (x4.take ((wrap64 ((x4.length : Int) - 1)) : Int).toNat) y146 x11).bind fun t152 => (if t152 = true then (ashlarlaw07_CnfMeans.l3 k x3 x4 x5 x6 x8 y146 x11 (wrap64 (x12 + 1)) (rdOf false y146 x11) (wrap64 (x14 + 1)) x133000 x133001 x133002 x133003) else (ashlarlaw07_CnfMeans.l3 k x3 x4 x5 x6 x8 y146 x11 x12 x13 (wrap64 (x14 + 1)) x133000 x133001 x133002 x133003))) else (none)) else (none))) else (none)) else (none)) else (if x12 = 1 then (if 0 ≤ x11 then (if x11 < (x9.length : Int) then (ashlarlaw07_CnfMeans.l2 k x3 x4 x5 x6 x8 (x9.set (x11 : Int).toNat x13) (wrap64 (x11 + 1)) x133000 x133001 x133002 x133003) else (none)) else (none)) else (some false))
end
def ashlarlaw07_CnfMeans.f (k : Nat) (a0_0 : Int) (a0_1 : ByteArray) (a0_2 : Int) (l0_3 : List (S24)) : Option (Bool) := (ashlarlaw07_shown.f).bind fun t133 => ((cnf_Clauses.f a0_0 a0_1 a0_2 l0_3).bind fun bt134 => (if bt134.2.2.2 = 0 then (if (bt134.2.1.length : Int) > 6 then (ashlarlaw07_CnfMeans.j0 k t133 bt134.1 bt134.2.1 bt134.2.2.1 true a0_0 a0_1 a0_2 l0_3) else (if (bt134.1.length : Int) > 60 then (ashlarlaw07_CnfMeans.j0 k t133 bt134.1 bt134.2.1 bt134.2.2.1 true a0_0 a0_1 a0_2 l0_3) else (ashlarlaw07_CnfMeans.j0 k t133 bt134.1 bt134.2.1 bt134.2.2.1 ((bt134.1.length : Int) == 0) a0_0 a0_1 a0_2 l0_3))) else (ashlarlaw07_CnfMeans.j0 k t133 bt134.1 bt134.2.1 bt134.2.2.1 true a0_0 a0_1 a0_2 l0_3)))
theorem ashlarlaw07_CnfMeans.mono_l : ∀ k, (∀ y0 y1 y2 y3 y4 y5 y6 y7 y8, LeO (ashlarlaw07_CnfMeans.j0 k y0 y1 y2 y3 y4 y5 y6 y7 y8) (ashlarlaw07_CnfMeans.j0 (k + 1) y0 y1 y2 y3 y4 y5 y6 y7 y8)) ∧ (∀ y0 y1 y2 y3 y4 y5 y6 y7 y8, LeO (ashlarlaw07_CnfMeans.l0 k y0 y1 y2 y3 y4 y5 y6 y7 y8) (ashlarlaw07_CnfMeans.l0 (k + 1) y0 y1 y2 y3 y4 y5 y6 y7 y8)) ∧ (∀ y0 y1 y2 y3 y4 y5 y6 y7 y8 y9 y10, LeO (ashlarlaw07_CnfMeans.l1 k y0 y1 y2 y3 y4 y5 y6 y7 y8 y9 y10) (ashlarlaw07_CnfMeans.l1 (k + 1) y0 y1 y2 y3 y4 y5 y6 y7 y8 y9 y10)) ∧ (∀ y0 y1 y2 y3 y4 y5 y6 y7 y8 y9 y10, LeO (ashlarlaw07_CnfMeans.l2 k y0 y1 y2 y3 y4 y5 y6 y7 y8 y9 y10) (ashlarlaw07_CnfMeans.l2 (k + 1) y0 y1 y2 y3 y4 y5 y6 y7 y8 y9 y10)) ∧ (∀ y0 y1 y2 y3 y4 y5 y6 y7 y8 y9 y10 y11 y12 y13, LeO (ashlarlaw07_CnfMeans.l3 k y0 y1 y2 y3 y4 y5 y6 y7 y8 y9 y10 y11 y12 y13) (ashlarlaw07_CnfMeans.l3 (k + 1) y0 y1 y2 y3 y4 y5 y6 y7 y8 y9 y10 y11 y12 y13))
  | 0 => ⟨fun _ _ _ _ _ _ _ _ _ r h => by simp [ashlarlaw07_CnfMeans.j0] at h, fun _ _ _ _ _ _ _ _ _ r h => by simp [ashlarlaw07_CnfMeans.l0] at h, fun _ _ _ _ _ _ _ _ _ _ _ r h => by simp [ashlarlaw07_CnfMeans.l1] at h, fun _ _ _ _ _ _ _ _ _ _ _ r h => by simp [ashlarlaw07_CnfMeans.l2] at h, fun _ _ _ _ _ _ _ _ _ _ _ _ _ _ r h => by simp [ashlarlaw07_CnfMeans.l3] at h⟩
  | k + 1 => by
    obtain ⟨ih0, ih1, ih2, ih3, ih4⟩ := ashlarlaw07_CnfMeans.mono_l k
    refine ⟨?_, ?_, ?_, ?_, ?_⟩
    · intro y0 y1 y2 y3 y4 y5 y6 y7 y8
      unfold ashlarlaw07_CnfMeans.j0
      repeat' first
      | (with_reducible exact ih0 _ _ _ _ _ _ _ _ _)
      | (with_reducible exact ih1 _ _ _ _ _ _ _ _ _)
      | (with_reducible exact ih2 _ _ _ _ _ _ _ _ _ _ _)
      | (with_reducible exact ih3 _ _ _ _ _ _ _ _ _ _ _)
      | (with_reducible exact ih4 _ _ _ _ _ _ _ _ _ _ _ _ _ _)
      | (with_reducible exact ashlarlaw07_holds.mono _ _ _)
      | (with_reducible exact ashlarlaw07_known.mono _ _ _ _)
      | (with_reducible exact ashlarlaw07_truth.mono _ _ _ _ _ _ _)
      | (with_reducible exact LeO.refl _)
      | (with_reducible exact LeO.none _)
      | (with_reducible refine LeO.ite ?_ ?_)
      | (with_reducible refine LeO.bind ?_ (fun _ => ?_))
      | exact ih0 _ _ _ _ _ _ _ _ _
      | exact ih1 _ _ _ _ _ _ _ _ _
      | exact ih2 _ _ _ _ _ _ _ _ _ _ _
      | exact ih3 _ _ _ _ _ _ _ _ _ _ _
      | exact ih4 _ _ _ _ _ _ _ _ _ _ _ _ _ _
      | exact ashlarlaw07_holds.mono _ _ _
      | exact ashlarlaw07_known.mono _ _ _ _
      | exact ashlarlaw07_truth.mono _ _ _ _ _ _ _
      | exact LeO.none _
      | refine LeO.ite ?_ ?_
      | refine LeO.bind ?_ (fun _ => ?_)
    · intro y0 y1 y2 y3 y4 y5 y6 y7 y8
      unfold ashlarlaw07_CnfMeans.l0
      repeat' first
      | (with_reducible exact ih0 _ _ _ _ _ _ _ _ _)
      | (with_reducible exact ih1 _ _ _ _ _ _ _ _ _)
      | (with_reducible exact ih2 _ _ _ _ _ _ _ _ _ _ _)
      | (with_reducible exact ih3 _ _ _ _ _ _ _ _ _ _ _)
      | (with_reducible exact ih4 _ _ _ _ _ _ _ _ _ _ _ _ _ _)
      | (with_reducible exact ashlarlaw07_holds.mono _ _ _)
      | (with_reducible exact ashlarlaw07_known.mono _ _ _ _)
      | (with_reducible exact ashlarlaw07_truth.mono _ _ _ _ _ _ _)
      | (with_reducible exact LeO.refl _)
      | (with_reducible exact LeO.none _)
      | (with_reducible refine LeO.ite ?_ ?_)
      | (with_reducible refine LeO.bind ?_ (fun _ => ?_))
      | exact ih0 _ _ _ _ _ _ _ _ _
      | exact ih1 _ _ _ _ _ _ _ _ _
      | exact ih2 _ _ _ _ _ _ _ _ _ _ _
      | exact ih3 _ _ _ _ _ _ _ _ _ _ _
      | exact ih4 _ _ _ _ _ _ _ _ _ _ _ _ _ _
      | exact ashlarlaw07_holds.mono _ _ _
      | exact ashlarlaw07_known.mono _ _ _ _
      | exact ashlarlaw07_truth.mono _ _ _ _ _ _ _
      | exact LeO.none _
      | refine LeO.ite ?_ ?_
      | refine LeO.bind ?_ (fun _ => ?_)
    · intro y0 y1 y2 y3 y4 y5 y6 y7 y8 y9 y10
      unfold ashlarlaw07_CnfMeans.l1
      repeat' first
      | (with_reducible exact ih0 _ _ _ _ _ _ _ _ _)
      | (with_reducible exact ih1 _ _ _ _ _ _ _ _ _)
      | (with_reducible exact ih2 _ _ _ _ _ _ _ _ _ _ _)
      | (with_reducible exact ih3 _ _ _ _ _ _ _ _ _ _ _)
      | (with_reducible exact ih4 _ _ _ _ _ _ _ _ _ _ _ _ _ _)
      | (with_reducible exact ashlarlaw07_holds.mono _ _ _)
      | (with_reducible exact ashlarlaw07_known.mono _ _ _ _)
      | (with_reducible exact ashlarlaw07_truth.mono _ _ _ _ _ _ _)
      | (with_reducible exact LeO.refl _)
      | (with_reducible exact LeO.none _)
      | (with_reducible refine LeO.ite ?_ ?_)
      | (with_reducible refine LeO.bind ?_ (fun _ => ?_))
      | exact ih0 _ _ _ _ _ _ _ _ _
      | exact ih1 _ _ _ _ _ _ _ _ _
      | exact ih2 _ _ _ _ _ _ _ _ _ _ _
      | exact ih3 _ _ _ _ _ _ _ _ _ _ _
      | exact ih4 _ _ _ _ _ _ _ _ _ _ _ _ _ _
      | exact ashlarlaw07_holds.mono _ _ _
      | exact ashlarlaw07_known.mono _ _ _ _
      | exact ashlarlaw07_truth.mono _ _ _ _ _ _ _
      | exact LeO.none _
      | refine LeO.ite ?_ ?_
      | refine LeO.bind ?_ (fun _ => ?_)
    · intro y0 y1 y2 y3 y4 y5 y6 y7 y8 y9 y10
      unfold ashlarlaw07_CnfMeans.l2
      repeat' first
      | (with_reducible exact ih0 _ _ _ _ _ _ _ _ _)
      | (with_reducible exact ih1 _ _ _ _ _ _ _ _ _)
      | (with_reducible exact ih2 _ _ _ _ _ _ _ _ _ _ _)
      | (with_reducible exact ih3 _ _ _ _ _ _ _ _ _ _ _)
      | (with_reducible exact ih4 _ _ _ _ _ _ _ _ _ _ _ _ _ _)
      | (with_reducible exact ashlarlaw07_holds.mono _ _ _)
      | (with_reducible exact ashlarlaw07_known.mono _ _ _ _)
      | (with_reducible exact ashlarlaw07_truth.mono _ _ _ _ _ _ _)
      | (with_reducible exact LeO.refl _)
      | (with_reducible exact LeO.none _)
      | (with_reducible refine LeO.ite ?_ ?_)
      | (with_reducible refine LeO.bind ?_ (fun _ => ?_))
      | exact ih0 _ _ _ _ _ _ _ _ _
      | exact ih1 _ _ _ _ _ _ _ _ _
      | exact ih2 _ _ _ _ _ _ _ _ _ _ _
      | exact ih3 _ _ _ _ _ _ _ _ _ _ _
      | exact ih4 _ _ _ _ _ _ _ _ _ _ _ _ _ _
      | exact ashlarlaw07_holds.mono _ _ _
      | exact ashlarlaw07_known.mono _ _ _ _
      | exact ashlarlaw07_truth.mono _ _ _ _ _ _ _
      | exact LeO.none _
      | refine LeO.ite ?_ ?_
      | refine LeO.bind ?_ (fun _ => ?_)
    · intro y0 y1 y2 y3 y4 y5 y6 y7 y8 y9 y10 y11 y12 y13
      unfold ashlarlaw07_CnfMeans.l3
      repeat' first
      | (with_reducible exact ih0 _ _ _ _ _ _ _ _ _)
      | (with_reducible exact ih1 _ _ _ _ _ _ _ _ _)
      | (with_reducible exact ih2 _ _ _ _ _ _ _ _ _ _ _)
      | (with_reducible exact ih3 _ _ _ _ _ _ _ _ _ _ _)
      | (with_reducible exact ih4 _ _ _ _ _ _ _ _ _ _ _ _ _ _)
      | (with_reducible exact ashlarlaw07_holds.mono _ _ _)
      | (with_reducible exact ashlarlaw07_known.mono _ _ _ _)
      | (with_reducible exact ashlarlaw07_truth.mono _ _ _ _ _ _ _)
      | (with_reducible exact LeO.refl _)
      | (with_reducible exact LeO.none _)
      | (with_reducible refine LeO.ite ?_ ?_)
      | (with_reducible refine LeO.bind ?_ (fun _ => ?_))
      | exact ih0 _ _ _ _ _ _ _ _ _
      | exact ih1 _ _ _ _ _ _ _ _ _
      | exact ih2 _ _ _ _ _ _ _ _ _ _ _
      | exact ih3 _ _ _ _ _ _ _ _ _ _ _
      | exact ih4 _ _ _ _ _ _ _ _ _ _ _ _ _ _
      | exact ashlarlaw07_holds.mono _ _ _
      | exact ashlarlaw07_known.mono _ _ _ _
      | exact ashlarlaw07_truth.mono _ _ _ _ _ _ _
      | exact LeO.none _
      | refine LeO.ite ?_ ?_
      | refine LeO.bind ?_ (fun _ => ?_)
theorem ashlarlaw07_CnfMeans.mono : ∀ a0 a1 a2 a3 k, LeO (ashlarlaw07_CnfMeans.f k a0 a1 a2 a3) (ashlarlaw07_CnfMeans.f (k + 1) a0 a1 a2 a3) := by
  intro a0 a1 a2 a3 k
  obtain ⟨ih0, ih1, ih2, ih3, ih4⟩ := ashlarlaw07_CnfMeans.mono_l k
  unfold ashlarlaw07_CnfMeans.f
  repeat' first
      | (with_reducible exact ih0 _ _ _ _ _ _ _ _ _)
      | (with_reducible exact ih1 _ _ _ _ _ _ _ _ _)
      | (with_reducible exact ih2 _ _ _ _ _ _ _ _ _ _ _)
      | (with_reducible exact ih3 _ _ _ _ _ _ _ _ _ _ _)
      | (with_reducible exact ih4 _ _ _ _ _ _ _ _ _ _ _ _ _ _)
      | (with_reducible exact ashlarlaw07_holds.mono _ _ _)
      | (with_reducible exact ashlarlaw07_known.mono _ _ _ _)
      | (with_reducible exact ashlarlaw07_truth.mono _ _ _ _ _ _ _)
      | (with_reducible exact LeO.refl _)
      | (with_reducible exact LeO.none _)
      | (with_reducible refine LeO.ite ?_ ?_)
      | (with_reducible refine LeO.bind ?_ (fun _ => ?_))
      | exact ih0 _ _ _ _ _ _ _ _ _
      | exact ih1 _ _ _ _ _ _ _ _ _
      | exact ih2 _ _ _ _ _ _ _ _ _ _ _
      | exact ih3 _ _ _ _ _ _ _ _ _ _ _
      | exact ih4 _ _ _ _ _ _ _ _ _ _ _ _ _ _
      | exact ashlarlaw07_holds.mono _ _ _
      | exact ashlarlaw07_known.mono _ _ _ _
      | exact ashlarlaw07_truth.mono _ _ _ _ _ _ _
      | exact LeO.none _
      | refine LeO.ite ?_ ?_
      | refine LeO.bind ?_ (fun _ => ?_)
def ashlarlaw07_CnfMeans.T28 : Bool × List (List Nat × List Nat) := (true, [([], []), ([], []), ([1], [1]), ([2], [2]), ([0, 3], [0, 3]), ([], []), ([], []), ([4, 5, 6], [4, 5, 6]), ([7], [7]), ([8, 7], [8]), ([9], [9]), ([9], [9]), ([11, 9], [9, 11]), ([12, 9], [9, 12]), ([10, 13, 9], [9, 10, 13]), ([14, 9], [9, 14]), ([9], [9]), ([15, 16, 9, 9], [9, 15, 16]), ([9], [9]), ([9], [9]), ([9], [9]), ([18, 19, 20, 17, 9], [9, 18, 19, 20]), ([17, 21, 9], [9, 17, 21]), ([9, 22], [9, 22])])
def ashlarlaw07_CnfMeans.B28 : List Nat := [0, 0, 2, 6, 15, 0, 0, 127, 255, 511, 1023, 1023, 3071, 7167, 16383, 32767, 1023, 131071, 1023, 1023, 1023, 2097151, 4194303, 8388607]
theorem ashlarlaw07_CnfMeans.tab28 : rtab .any (opsOf Tryd.f4 28) = ashlarlaw07_CnfMeans.T28 := by kernel_rfl
theorem ashlarlaw07_CnfMeans.bits28 : waitsOk ashlarlaw07_CnfMeans.T28.2 ashlarlaw07_CnfMeans.B28 = true := by kernel_rfl
set_option maxHeartbeats 8000000 in
set_option maxRecDepth 100000 in
theorem ashlarlaw07_CnfMeans.calls (k : Nat) (a0_0 : Int) (a0_1 : ByteArray) (a0_2 : Int) (A0_3 : Option Addr) (c0_3 : Nat) (l0_3 : List (S24)) (r : Bool) (w : World) (hr : r = true) (hr0_3 : Kd.C k24 w A0_3 l0_3.length l0_3) (hc0_3 : l0_3.length ≤ c0_3) (h : ashlarlaw07_CnfMeans.f k a0_0 a0_1 a0_2 l0_3 = some r) :
    Calls Tryd.prog 4 #[.agg #[.int .i64 a0_0, .string a0_1, .int .i64 a0_2, .slice A0_3 l0_3.length c0_3]] w fun e w' => e = .returned (.bool r) ∧ Below w.heap.size w w' := by
  have hu24 := Tryd.underlying24
  have HR0_3 := Aside0.mk hr0_3
  have HC0_3 := Aside0.mk hc0_3
  clear hr0_3 hc0_3
  have HB := Aside0.mk (Below.refl w.heap.size w)
  have H : ((ashlarlaw07_shown.f).bind fun t133 => ((cnf_Clauses.f a0_0 a0_1 a0_2 l0_3).bind fun bt134 => (if bt134.2.2.2 = 0 then (if (bt134.2.1.length : Int) > 6 then (ashlarlaw07_CnfMeans.j0 k t133 bt134.1 bt134.2.1 bt134.2.2.1 true a0_0 a0_1 a0_2 l0_3) else (if (bt134.1.length : Int) > 60 then (ashlarlaw07_CnfMeans.j0 k t133 bt134.1 bt134.2.1 bt134.2.2.1 true a0_0 a0_1 a0_2 l0_3) else (ashlarlaw07_CnfMeans.j0 k t133 bt134.1 bt134.2.1 bt134.2.2.1 ((bt134.1.length : Int) == 0) a0_0 a0_1 a0_2 l0_3))) else (ashlarlaw07_CnfMeans.j0 k t133 bt134.1 bt134.2.1 bt134.2.2.1 true a0_0 a0_1 a0_2 l0_3)))) = some r := h
  clear h
  replace H := Option.bind_eq_some_iff.mp H
  obtain ⟨t133, A20, H⟩ := H
  replace H : ((cnf_Clauses.f a0_0 a0_1 a0_2 l0_3).bind fun bt134 => (if bt134.2.2.2 = 0 then (if (bt134.2.1.length : Int) > 6 then (ashlarlaw07_CnfMeans.j0 k t133 bt134.1 bt134.2.1 bt134.2.2.1 true a0_0 a0_1 a0_2 l0_3) else (if (bt134.1.length : Int) > 60 then (ashlarlaw07_CnfMeans.j0 k t133 bt134.1 bt134.2.1 bt134.2.2.1 true a0_0 a0_1 a0_2 l0_3) else (ashlarlaw07_CnfMeans.j0 k t133 bt134.1 bt134.2.1 bt134.2.2.1 ((bt134.1.length : Int) == 0) a0_0 a0_1 a0_2 l0_3))) else (ashlarlaw07_CnfMeans.j0 k t133 bt134.1 bt134.2.1 bt134.2.2.1 true a0_0 a0_1 a0_2 l0_3))) = some r := H
  have A2 := Aside0.mk A20
  clear A20
  replace H := Option.bind_eq_some_iff.mp H
  obtain ⟨⟨t134, t137, t140, t141⟩, A30, H⟩ := H
  replace H : (if t141 = 0 then (if (t137.length : Int) > 6 then (ashlarlaw07_CnfMeans.j0 k t133 t134 t137 t140 true a0_0 a0_1 a0_2 l0_3) else (if (t134.length : Int) > 60 then (ashlarlaw07_CnfMeans.j0 k t133 t134 t137 t140 true a0_0 a0_1 a0_2 l0_3) else (ashlarlaw07_CnfMeans.j0 k t133 t134 t137 t140 ((t134.length : Int) == 0) a0_0 a0_1 a0_2 l0_3))) else (ashlarlaw07_CnfMeans.j0 k t133 t134 t137 t140 true a0_0 a0_1 a0_2 l0_3)) = some r := H
  have A3 := Aside0.mk A30
  clear A30
  have HC4 := Aside0.mk H
  clear H
  go_enter Tryd.func4, Tryd.ntmps4
  go_upto_region 3 with (first | ((with_reducible refine gate_dst (N := 1) rfl ?_); (try (refine gate_guard (by rfl) ?_; dsimp only)); refine box_event ?hg (N := 1) ?hd (cs := #[.int .i64 a0_0, .string a0_1, .int .i64 a0_2, .slice A0_3 l0_3.length c0_3]) (t := 24) ?hr ?_; (case hd => rfl); (case hg => rfl); (case hr => first | (go_simp; done) | (go_simp; rfl)); intro gb132 hg w5 hbox hb; have n0_ := Aside0.mk (below_step (by repeat (first | (with_reducible first | exact HB.out | apply below_alloc | apply pw_below_drewN | apply below_drew1) | exact HB.out)) hb); have n1_ := Aside0.mk (hbox); have n2_ := Aside0.mk ((by rw [hg]; exact (below_size (by repeat (first | (with_reducible first | exact HB.out | apply below_alloc | apply pw_below_drewN | apply below_drew1) | exact HB.out))) : w.heap.size ≤ gb132)); have n3_ := Aside0.mk ((by rw [hg]; exact (below_size (by repeat (first | (with_reducible first | exact HB.out | apply below_alloc | apply pw_below_drewN | apply below_drew1) | exact HB.out))) : w.heap.size ≤ gb132)); clear HB; have HB := n0_; have BK132 := n1_; have GW132 := n2_; have GE132 := n3_; clear n0_ n1_ n2_ n3_; clear hb hbox hg) | ((with_reducible refine gate_callee (f := 9) rfl ?_); refine goesL_ (some 15) rfl rfl Tryd.func9 (by kernel_rfl) rfl #[] rfl (by (try simp only [List.map_toArray, List.map_cons, List.map_nil]); first | done | rfl | (simp only [List.length_drop, List.length_take]; rfl)) ?_; (with_reducible refine (ashlarlaw07_shown.calls  t133 _ A2.out).mono ?_); rintro e w6 ⟨rfl, hb⟩; refine ⟨_, rfl, ?_⟩; have n0_ := Aside0.mk (blk_below (g := gb132) (o := .cells #[.int .i64 a0_0, .string a0_1, .int .i64 a0_2, .slice A0_3 l0_3.length c0_3] 24 (0, 0)) (by (with_reducible repeat (first | refine blk_drewN ?_ _ | refine blk_drew ?_ | refine blk_alloc ?_ _)); exact BK132.out) hb); have n1_ := Aside0.mk (below_step (by repeat (first | (with_reducible first | exact HB.out | apply below_alloc | apply pw_below_drewN | apply below_drew1 | refine below_set ?_ GE132.out) | exact HB.out)) hb); clear BK132; clear HB; have BK132 := n0_; have HB := n1_; clear n0_ n1_; (try clear hb); (try clear hb2); (try clear hk); (try clear hi); have hcz7_0 : w6.cell? ⟨gb132, 0, none⟩ = some (.int .i64 a0_0) := (blk_cell BK132.out 0).trans rfl; have hcz7_1 : w6.cell? ⟨gb132, 1, none⟩ = some (.string a0_1) := (blk_cell BK132.out 1).trans rfl; have hcz7_2 : w6.cell? ⟨gb132, 2, none⟩ = some (.int .i64 a0_2) := (blk_cell BK132.out 2).trans rfl; have hcz7_3 : w6.cell? ⟨gb132, 3, none⟩ = some (.slice A0_3 l0_3.length c0_3) := (blk_cell BK132.out 3).trans rfl; have hfz7_0 := blk_frozen BK132.out 0; have hfz7_1 := blk_frozen BK132.out 1; have hfz7_2 := blk_frozen BK132.out 2; have hfz7_3 := blk_frozen BK132.out 3) | ((with_reducible refine gate_callee (f := 10) rfl ?_); refine goesL_ (some 18) rfl rfl Tryd.func10 (by kernel_rfl) rfl #[.agg #[.int .i64 a0_0, .string a0_1, .int .i64 a0_2, .slice A0_3 l0_3.length c0_3]] rfl (by (try simp only [List.map_toArray, List.map_cons, List.map_nil]); first | done | rfl | (simp only [List.length_drop, List.length_take]; rfl)) ?_; (with_reducible refine (cnf_Clauses.calls a0_0 a0_1 a0_2 (fun k_ => k_ < w.heap.size) _ _ l0_3 t134 t137 t140 t141 _ ?side1 A3.out).mono ?_); (case side1 => exact Kd.V_mk HC0_3.out (Kd.F_below (Kd.C_F k24_heap HR0_3.out) (by repeat (first | (with_reducible first | exact HB.out | apply below_alloc | apply pw_below_drewN | apply below_drew1 | refine below_set ?_ GE132.out) | exact HB.out)))); rintro e w8 ⟨v135, v138, rfl, ho0, ho1, hb⟩; refine ⟨_, rfl, ?_⟩; have n0_ := Aside0.mk (Kd.N_lower (Kd.N_mono (ok' := fun k_ => k_ ≠ gb132) ho0 (fun k_ hk_ => Or.elim hk_ (fun hs_ => fun e_ => Nat.not_le.2 hs_ (by rw [e_]; exact GW132.out)) (fun hn_ => (Kd.freshB (g := gb132) (o := .cells #[.int .i64 a0_0, .string a0_1, .int .i64 a0_2, .slice A0_3 l0_3.length c0_3] 24 (0, 0)) (by (with_reducible repeat (first | refine blk_drewN ?_ _ | refine blk_drew ?_ | refine blk_alloc ?_ _)); exact BK132.out) k_ hn_)))) (below_size (by repeat (first | (with_reducible first | exact HB.out | apply below_alloc | apply pw_below_drewN | apply below_drew1 | refine below_set ?_ GE132.out) | exact HB.out)))); have n1_ := Aside0.mk (Kd.V_lower (Kd.V_mono (ok' := fun k_ => some k_ ≠ (v135 : Value).ownBlock ∧ k_ ≠ gb132) ho1 (fun k_ hk_ => ⟨hk_.2, Or.elim hk_.1 (fun hs_ => fun e_ => Nat.not_le.2 hs_ (by rw [e_]; exact GW132.out)) (fun hn_ => (Kd.freshB (g := gb132) (o := .cells #[.int .i64 a0_0, .string a0_1, .int .i64 a0_2, .slice A0_3 l0_3.length c0_3] 24 (0, 0)) (by (with_reducible repeat (first | refine blk_drewN ?_ _ | refine blk_drew ?_ | refine blk_alloc ?_ _)); exact BK132.out) k_ hn_))⟩)) (below_size (by repeat (first | (with_reducible first | exact HB.out | apply below_alloc | apply pw_below_drewN | apply below_drew1 | refine below_set ?_ GE132.out) | exact HB.out)))); have n2_ := Aside0.mk (blk_below (g := gb132) (o := .cells #[.int .i64 a0_0, .string a0_1, .int .i64 a0_2, .slice A0_3 l0_3.length c0_3] 24 (0, 0)) (by (with_reducible repeat (first | refine blk_drewN ?_ _ | refine blk_drew ?_ | refine blk_alloc ?_ _)); exact BK132.out) hb); have n3_ := Aside0.mk (below_step (by repeat (first | (with_reducible first | exact HB.out | apply below_alloc | apply pw_below_drewN | apply below_drew1 | refine below_set ?_ GE132.out) | exact HB.out)) hb); clear BK132; clear HB; have HO136 := n0_; have HO139 := n1_; have BK132 := n2_; have HB := n3_; clear n0_ n1_ n2_ n3_; (try clear hb); (try clear hb2); (try clear hk); (try clear hi); (try clear ho0); (try clear ho1)))
  (try simp only [Act.put, List.setIfInBounds_toArray, List.set_cons_zero, List.set_cons_succ])
  go_cut [39] (fun v39 wc => ∃ (kq : Nat) (x39_3 : Bool), v39 = .bool x39_3 ∧ Aside0 (ashlarlaw07_CnfMeans.j0 kq t133 t134 t137 t140 x39_3 a0_0 a0_1 a0_2 l0_3 = some r) ∧ Aside0 (kq ≤ k) ∧ Aside0 (Kd.N (Kd.slice 3 (Kd.int .i64)) 32 wc w.heap.size (fun k_ => k_ ≠ gb132) v135 t134) ∧ Aside0 (Kd.V k24 24 wc w.heap.size (fun k_ => some k_ ≠ (v135 : Value).ownBlock ∧ k_ ≠ gb132) v138 t137) ∧ Aside0 (wc.heap[gb132]? = some (.cells #[.int .i64 a0_0, .string a0_1, .int .i64 a0_2, (.slice A0_3 l0_3.length c0_3)] 24 (0, 0))) ∧ Aside0 (Below w.heap.size w wc))
  case first =>
    have H := HC4.out
    clear HC4
    by_cases c9 : t141 = 0
    · rw [if_pos c9] at H
      have c9b0 : (t141 == 0) = true := beq_iff_eq.mpr c9
      have c9b1 : (t141 != 0) = false := bne_eq_false_iff_eq.mpr c9
      clear c9
      (first | rw [c9b0] | (simp only [i64_w, i32_w]; rw [c9b0]) | skip)
      by_cases c10 : (t137.length : Int) > 6
      · rw [if_pos c10] at H
        have c10b0 : decide (6 < (t137.length : Int)) = true := decide_eq_true c10
        have c10b1 : decide (6 < t137.length) = true := decide_eq_true (by omega)
        clear c10
        have H' := Aside0.mk H
        clear H
        obtain ⟨Ao11, co11, eo11⟩ := Kd.V_slice HO139.out
        subst eo11
        go_wp2
        go_meet
        case rel => exact ⟨_, (true), (by first | rfl | (simp; done) | (simp [*]; done)), H', ⟨by first | omega | exact Nat.le_refl _⟩, ⟨by (with_reducible repeat (first | apply Kd.N_alloc | apply Kd.N_drewN | apply Kd.N_drew)); exact HO136.out⟩, ⟨by (with_reducible repeat (first | apply Kd.V_alloc | apply Kd.V_drewN | apply Kd.V_drew)); exact HO139.out⟩, ⟨by (with_reducible repeat (first | refine blk_drewN ?_ _ | refine blk_drew ?_ | refine blk_alloc ?_ _)); exact BK132.out⟩, ⟨by repeat (first | (with_reducible first | exact HB.out | apply below_alloc | apply pw_below_drewN | apply below_drew1 | refine below_set ?_ GE132.out) | exact HB.out)⟩⟩
      · rw [if_neg c10] at H
        have c10b0 : decide (6 < (t137.length : Int)) = false := decide_eq_false c10
        have c10b1 : decide (6 < t137.length) = false := decide_eq_false (by omega)
        clear c10
        by_cases c12 : (t134.length : Int) > 60
        · rw [if_pos c12] at H
          have c12b0 : decide (60 < (t134.length : Int)) = true := decide_eq_true c12
          have c12b1 : decide (60 < t134.length) = true := decide_eq_true (by omega)
          clear c12
          have H' := Aside0.mk H
          clear H
          obtain ⟨Ao13, co13, eo13⟩ := Kd.V_slice HO139.out
          subst eo13
          obtain ⟨Ao14, co14, eo14⟩ := Kd.N_slice HO136.out
          subst eo14
          go_wp2
          go_meet
          case rel => exact ⟨_, (true), (by first | rfl | (simp; done) | (simp [*]; done)), H', ⟨by first | omega | exact Nat.le_refl _⟩, ⟨by (with_reducible repeat (first | apply Kd.N_alloc | apply Kd.N_drewN | apply Kd.N_drew)); exact HO136.out⟩, ⟨by (with_reducible repeat (first | apply Kd.V_alloc | apply Kd.V_drewN | apply Kd.V_drew)); exact HO139.out⟩, ⟨by (with_reducible repeat (first | refine blk_drewN ?_ _ | refine blk_drew ?_ | refine blk_alloc ?_ _)); exact BK132.out⟩, ⟨by repeat (first | (with_reducible first | exact HB.out | apply below_alloc | apply pw_below_drewN | apply below_drew1 | refine below_set ?_ GE132.out) | exact HB.out)⟩⟩
        · rw [if_neg c12] at H
          have c12b0 : decide (60 < (t134.length : Int)) = false := decide_eq_false c12
          have c12b1 : decide (60 < t134.length) = false := decide_eq_false (by omega)
          clear c12
          have H' := Aside0.mk H
          clear H
          obtain ⟨Ao15, co15, eo15⟩ := Kd.V_slice HO139.out
          subst eo15
          obtain ⟨Ao16, co16, eo16⟩ := Kd.N_slice HO136.out
          subst eo16
          go_wp2
          go_meet
          case rel => exact ⟨_, (((t134.length : Int) == 0)), (by first | rfl | (simp; done) | (simp [*]; done)), H', ⟨by first | omega | exact Nat.le_refl _⟩, ⟨by (with_reducible repeat (first | apply Kd.N_alloc | apply Kd.N_drewN | apply Kd.N_drew)); exact HO136.out⟩, ⟨by (with_reducible repeat (first | apply Kd.V_alloc | apply Kd.V_drewN | apply Kd.V_drew)); exact HO139.out⟩, ⟨by (with_reducible repeat (first | refine blk_drewN ?_ _ | refine blk_drew ?_ | refine blk_alloc ?_ _)); exact BK132.out⟩, ⟨by repeat (first | (with_reducible first | exact HB.out | apply below_alloc | apply pw_below_drewN | apply below_drew1 | refine below_set ?_ GE132.out) | exact HB.out)⟩⟩
    · rw [if_neg c9] at H
      have c9b0 : (t141 == 0) = false := beq_eq_false_iff_ne.mpr c9
      have c9b1 : (t141 != 0) = true := bne_iff_ne.mpr c9
      (first | rw [c9b0] | (simp only [i64_w, i32_w]; rw [c9b0]) | skip)
      have H' := Aside0.mk H
      clear H
      go_wp2
      go_meet
      case rel => exact ⟨_, (true), (by first | rfl | (simp; done) | (simp [*]; done)), H', ⟨by first | omega | exact Nat.le_refl _⟩, ⟨by (with_reducible repeat (first | apply Kd.N_alloc | apply Kd.N_drewN | apply Kd.N_drew)); exact HO136.out⟩, ⟨by (with_reducible repeat (first | apply Kd.V_alloc | apply Kd.V_drewN | apply Kd.V_drew)); exact HO139.out⟩, ⟨by (with_reducible repeat (first | refine blk_drewN ?_ _ | refine blk_drew ?_ | refine blk_alloc ?_ _)); exact BK132.out⟩, ⟨by repeat (first | (with_reducible first | exact HB.out | apply below_alloc | apply pw_below_drewN | apply below_drew1 | refine below_set ?_ GE132.out) | exact HB.out)⟩⟩
  case rest =>
    clear HC4
    try clear c1
    try clear p2
    try clear c4
    try clear c9
    try clear c9b0
    try clear c9b1
    try clear c10
    try clear c10b0
    try clear c10b1
    try clear c12
    try clear c12b0
    try clear c12b1
    try clear hcz7_0
    try clear hcz7_1
    try clear hcz7_2
    try clear hcz7_3
    try clear hfz7_0
    try clear hfz7_1
    try clear hfz7_2
    try clear hfz7_3
    obtain ⟨kq, x39_3, rfl, HA, HJ3, HO_4, HO_5, BK132, HB⟩ := hcut
    cases kq with
    | zero => exact absurd HA.out (by simp [ashlarlaw07_CnfMeans.j0])
    | succ kj3 =>
      have H := HA.out
      clear HA
      simp only [ashlarlaw07_CnfMeans.j0] at H
      by_cases c17 : x39_3 = true
      · subst c17
        have H1 : (some t133) = some r := by rw [if_pos rfl] at H; exact H
        clear H
        have H := H1
        clear H1
        obtain rfl := Option.some.inj H
        go_wp2
        go_ret
        exact ⟨by first | rfl | (simp [errW_none, errW_some] <;> rfl) | (simp [*, errW_none, errW_some] <;> rfl), by repeat (first | (with_reducible first | exact HB.out | apply below_alloc | apply pw_below_drewN | apply below_drew1 | refine below_set ?_ GE132.out) | exact HB.out)⟩
      · replace c17 := Bool.eq_false_iff.mpr c17
        subst c17
        have H1 : (ashlarlaw07_CnfMeans.l0 kj3 t133 t134 t137 t140 0 a0_0 a0_1 a0_2 l0_3) = some r := by rw [if_neg (show ¬ (false = true) by decide)] at H; exact H
        clear H
        have H := H1
        clear H1
        have H' := Aside0.mk H
        clear H
        go_wp2
        go_loopg [8] kj3 (fun kq v8 w' => ∃ (x8_2 : Int), v8 = .int .u64 x8_2 ∧ Aside0 (ashlarlaw07_CnfMeans.l0 kq t133 t134 t137 t140 x8_2 a0_0 a0_1 a0_2 l0_3 = some r) ∧ Aside0 (kq ≤ kj3) ∧ Aside0 (Kd.N (Kd.slice 3 (Kd.int .i64)) 32 w' w.heap.size (fun k_ => k_ ≠ gb132) v135 t134) ∧ Aside0 (Kd.V k24 24 w' w.heap.size (fun k_ => some k_ ≠ (v135 : Value).ownBlock ∧ k_ ≠ gb132) v138 t137) ∧ Aside0 (w'.heap[gb132]? = some (.cells #[.int .i64 a0_0, .string a0_1, .int .i64 a0_2, (.slice A0_3 l0_3.length c0_3)] 24 (0, 0))) ∧ Aside0 (Below w.heap.size w w'))
        case atStart => exact ⟨(0), (by first | rfl | (simp; done) | (simp [*]; done)), H', ⟨Nat.le_refl _⟩, ⟨by (with_reducible repeat (first | apply Kd.N_alloc | apply Kd.N_drewN | apply Kd.N_drew)); exact HO_4.out⟩, ⟨by (with_reducible repeat (first | apply Kd.V_alloc | apply Kd.V_drewN | apply Kd.V_drew)); exact HO_5.out⟩, ⟨by (with_reducible repeat (first | refine blk_drewN ?_ _ | refine blk_drew ?_ | refine blk_alloc ?_ _)); exact BK132.out⟩, ⟨by repeat (first | (with_reducible first | exact HB.out | apply below_alloc | apply pw_below_drewN | apply below_drew1 | refine below_set ?_ GE132.out) | exact HB.out)⟩⟩
        case round =>
          clear H'
          try clear c1
          try clear p2
          try clear c4
          try clear c9
          try clear c9b0
          try clear c9b1
          try clear c10
          try clear c10b0
          try clear c10b1
          try clear c12
          try clear c12b0
          try clear c12b1
          try clear c17
          try clear hcz7_0
          try clear hcz7_1
          try clear hcz7_2
          try clear hcz7_3
          try clear hfz7_0
          try clear hfz7_1
          try clear hfz7_2
          try clear hfz7_3
          try clear p2
          obtain ⟨x8_2, rfl, HA, HK2, HO_4, HO_5, BK132, HB⟩ := hrel
          cases gk with
          | zero => exact absurd HA.out (by simp [ashlarlaw07_CnfMeans.l0])
          | succ k2 =>
            have H := HA.out
            clear HA
            simp only [ashlarlaw07_CnfMeans.l0] at H
            obtain ⟨ji18, hji18⟩ : ∃ j_ : Int, (IntKind.u64.wrap ((t137.length : Int))) = j_ := ⟨_, rfl⟩
            replace H : (if 0 ≤ (ji18) then (if x8_2 < (shl .u64 1 (ji18)) then (if 0 ≤ (wrap64 (t140 + 1)) then (if (wrap64 (t140 + 1) : Int).toNat ≤ 281474976710656 then (ashlarlaw07_CnfMeans.l1 k2 t133 t134 t137 t140 x8_2 (List.replicate (wrap64 (t140 + 1) : Int).toNat false) 0 a0_0 a0_1 a0_2 l0_3) else (none)) else (none)) else (some t133)) else (none)) = some r := by first | (rw [hji18] at H; exact H) | (simp only [hji18] at H ⊢; exact H)
            by_cases c19 : 0 ≤ (ji18)
            · rw [if_pos c19] at H
              have c19b0 := eq_true c19
              have c19b1 : decide (0 ≤ (ji18)) = true := decide_eq_true c19
              clear c19
              obtain ⟨ji20, hji20⟩ : ∃ j_ : Int, (shl .u64 1 (ji18)) = j_ := ⟨_, rfl⟩
              replace H : (if x8_2 < (ji20) then (if 0 ≤ (wrap64 (t140 + 1)) then (if (wrap64 (t140 + 1) : Int).toNat ≤ 281474976710656 then (ashlarlaw07_CnfMeans.l1 k2 t133 t134 t137 t140 x8_2 (List.replicate (wrap64 (t140 + 1) : Int).toNat false) 0 a0_0 a0_1 a0_2 l0_3) else (none)) else (none)) else (some t133)) = some r := by first | (rw [hji20] at H; exact H) | (simp only [hji20] at H ⊢; exact H)
              have hji20_ : (IntKind.u64.wrap (1 * 2 ^ min (ji18).toNat 64)) = ji20 := hji20
              have hji20z : (ji18) ≤ 64 → (IntKind.u64.wrap (1 * 2 ^ (ji18).toNat)) = ji20 := shl_small hji20
              have hji20u : (IntKind.u64.wrap (2 ^ min (ji18).toNat 64)) = ji20 := by have h_ := hji20_; rw [Int.one_mul] at h_; exact h_
              have hji20v : (ji18) ≤ 64 → (IntKind.u64.wrap (2 ^ (ji18).toNat)) = ji20 := fun hle_ => by have h_ := hji20z hle_; rw [Int.one_mul] at h_; exact h_
              by_cases c21 : x8_2 < (ji20)
              · rw [if_pos c21] at H
                have c21b0 : decide (x8_2 < (ji20)) = true := decide_eq_true c21
                clear c21
                obtain ⟨ji22, hji22⟩ : ∃ j_ : Int, (wrap64 (t140 + 1)) = j_ := ⟨_, rfl⟩
                replace H : (if 0 ≤ (ji22) then (if (ji22 : Int).toNat ≤ 281474976710656 then (ashlarlaw07_CnfMeans.l1 k2 t133 t134 t137 t140 x8_2 (List.replicate (ji22 : Int).toNat false) 0 a0_0 a0_1 a0_2 l0_3) else (none)) else (none)) = some r := by first | (rw [hji22] at H; exact H) | (simp only [hji22] at H ⊢; exact H)
                have hji22w : (IntKind.i64.wrap (t140 + 1)) = ji22 := (i64_w _).trans hji22
                by_cases c23 : 0 ≤ (ji22)
                · rw [if_pos c23] at H
                  have c23b0 := eq_true c23
                  have c23b1 : decide (0 ≤ (ji22)) = true := decide_eq_true c23
                  clear c23
                  by_cases c24 : (ji22 : Int).toNat ≤ 281474976710656
                  · rw [if_pos c24] at H
                    have c24b0 := eq_true c24
                    have c24b1 : decide ((ji22 : Int).toNat ≤ 281474976710656) = true := decide_eq_true c24
                    clear c24
                    obtain ⟨y142, hy142⟩ : ∃ y_ : List Bool, y_ = (List.replicate (ji22 : Int).toNat false) := ⟨_, rfl⟩
                    replace H : (ashlarlaw07_CnfMeans.l1 k2 t133 t134 t137 t140 x8_2 y142 0 a0_0 a0_1 a0_2 l0_3) = some r := by first | (rw [hy142]; with_reducible exact H) | (have H2_ := (Option.bind_some _ _).symm.trans H; rw [hy142]; with_reducible exact H2_) | (have H2_ := (Option.bind_some _ _).symm.trans H; with_reducible exact H2_) | with_reducible exact H | (rw [hy142]; exact H) | exact H
                    have Ny142 := Aside0.mk hy142
                    clear hy142
                    have H' := Aside0.mk H
                    clear H
                    obtain ⟨Ao25, co25, eo25⟩ := Kd.V_slice HO_5.out
                    subst eo25
                    go_wp2_with (first | ((with_reducible refine gate_dst (N := 51) rfl ?_); (try (refine gate_guard (by rfl) ?_; dsimp only)); refine Kd.R_make Kd.bool _ 4 rfl (N := 51) rfl 35 _ _ rfl ji22 rfl rfl Tryd.underlying35 (.bool false) 1 info4 rfl (by decide) (by omega) false (ok := fun _ => True) (okp := fun _ => True) rfl (fun _ hk => hk) trivial (of_decide_eq_true (by first | (with_reducible assumption) | assumption)) (Nat.le_trans (Nat.mul_le_mul_right _ (of_decide_eq_true (by first | (with_reducible assumption) | assumption) : ji22.toNat ≤ 281474976710656)) (by omega)) (Below.refl _ _) (Nat.le_refl _) ?_; intro v143 w26 ho27 hb hg_ hnew_; clear hg_ hnew_; (first | rw [← Ny142.out] at ho27 | (simp only [Int.reduceToNat] at ho27; rw [← Ny142.out] at ho27)); have n0_ := Aside0.mk (Kd.N_elder' (by (with_reducible repeat (first | apply Kd.N_alloc | apply Kd.N_drewN | apply Kd.N_drew)); exact HO_4.out) (Kd.R_base ho27) hb); have n1_ := Aside0.mk (Kd.V_elder' (by (with_reducible repeat (first | apply Kd.V_alloc | apply Kd.V_drewN | apply Kd.V_drew)); exact HO_5.out) (Kd.R_base ho27) hb); have n2_ := Aside0.mk (Kd.R_lower ho27 (below_size (by repeat (first | (with_reducible first | exact HB.out | apply below_alloc | apply pw_below_drewN | apply below_drew1 | refine below_set ?_ GE132.out) | exact HB.out)))); have n3_ := Aside0.mk (blk_below (g := gb132) (o := .cells #[.int .i64 a0_0, .string a0_1, .int .i64 a0_2, .slice A0_3 l0_3.length c0_3] 24 (0, 0)) (by (with_reducible repeat (first | refine blk_drewN ?_ _ | refine blk_drew ?_ | refine blk_alloc ?_ _)); exact BK132.out) hb); have n4_ := Aside0.mk (below_step (by repeat (first | (with_reducible first | exact HB.out | apply below_alloc | apply pw_below_drewN | apply below_drew1 | refine below_set ?_ GE132.out) | exact HB.out)) hb); clear HO_4; clear HO_5; clear BK132; clear HB; have HO_4 := n0_; have HO_5 := n1_; have HO144 := n2_; have BK132 := n3_; have HB := n4_; clear n0_ n1_ n2_ n3_ n4_; clear hb ho27))
                    go_loopg [10] k2 (fun kq v10 w' => ∃ (x9_3 : List Bool) (x10_3 : Int), v10 = .int .i64 x10_3 ∧ Aside0 (ashlarlaw07_CnfMeans.l1 kq t133 t134 t137 t140 x8_2 x9_3 x10_3 a0_0 a0_1 a0_2 l0_3 = some r) ∧ Aside0 (kq ≤ k2) ∧ Aside0 (Kd.N (Kd.slice 3 (Kd.int .i64)) 32 w' w.heap.size (fun k_ => some k_ ≠ (v143 : Value).ownBlock ∧ k_ ≠ gb132) v135 t134) ∧ Aside0 (Kd.V k24 24 w' w.heap.size (fun k_ => some k_ ≠ (v135 : Value).ownBlock ∧ some k_ ≠ (v143 : Value).ownBlock ∧ k_ ≠ gb132) (.slice Ao25 t137.length co25) t137) ∧ Aside0 (Kd.R Kd.bool 4 w' w.heap.size (fun _ => True) v143 x9_3) ∧ Aside0 (w'.heap[gb132]? = some (.cells #[.int .i64 a0_0, .string a0_1, .int .i64 a0_2, (.slice A0_3 l0_3.length c0_3)] 24 (0, 0))) ∧ Aside0 (Below w.heap.size w w'))
                    case atStart => exact ⟨(y142), (0), (by first | rfl | (simp; done) | (simp [*]; done)), H', ⟨Nat.le_refl _⟩, ⟨by (with_reducible repeat (first | apply Kd.N_alloc | apply Kd.N_drewN | apply Kd.N_drew)); exact Kd.N_mono HO_4.out (fun _ hk => ⟨hk.2, hk.1⟩)⟩, ⟨by (with_reducible repeat (first | apply Kd.V_alloc | apply Kd.V_drewN | apply Kd.V_drew)); exact Kd.V_mono HO_5.out (fun _ hk => ⟨hk.1.1, ⟨hk.2, hk.1.2⟩⟩)⟩, ⟨by (with_reducible repeat (first | apply Kd.R_alloc | apply Kd.R_drewN | apply Kd.R_drew)); exact HO144.out⟩, ⟨by (with_reducible repeat (first | refine blk_drewN ?_ _ | refine blk_drew ?_ | refine blk_alloc ?_ _)); exact BK132.out⟩, ⟨by repeat (first | (with_reducible first | exact HB.out | apply below_alloc | apply pw_below_drewN | apply below_drew1 | refine below_set ?_ GE132.out) | exact HB.out)⟩⟩
                    case round =>
                      clear H'
                      try clear c1
                      try clear c2
                      try clear p2
                      try clear c4
                      try clear p6
                      try clear c9
                      try clear c9b0
                      try clear c9b1
                      try clear c10
                      try clear c10b0
                      try clear c10b1
                      try clear c12
                      try clear c12b0
                      try clear c12b1
                      try clear c17
                      try clear c19
                      try clear c19b0
                      try clear c19b1
                      try clear c21
                      try clear c21b0
                      try clear c23
                      try clear c23b0
                      try clear c23b1
                      try clear c24
                      try clear c24b0
                      try clear c24b1
                      try clear hcz7_0
                      try clear hcz7_1
                      try clear hcz7_2
                      try clear hcz7_3
                      try clear hfz7_0
                      try clear hfz7_1
                      try clear hfz7_2
                      try clear hfz7_3
                      try clear p2
                      obtain ⟨x9_3, x10_3, rfl, HA, HK3, HO_4, HO_5, HO_9, BK132, HB⟩ := hrel
                      cases gk with
                      | zero => exact absurd HA.out (by simp [ashlarlaw07_CnfMeans.l1])
                      | succ k3 =>
                        have H := HA.out
                        clear HA
                        simp only [ashlarlaw07_CnfMeans.l1] at H
                        by_cases c28 : x10_3 < (t137.length : Int)
                        · rw [if_pos c28] at H
                          have c28b0 : decide (x10_3 < (t137.length : Int)) = true := decide_eq_true c28
                          clear c28
                          obtain ⟨ji29, hji29⟩ : ∃ j_ : Int, (IntKind.u64.wrap (x10_3)) = j_ := ⟨_, rfl⟩
                          replace H : (if 0 ≤ (ji29) then (if 0 ≤ (wrap64 (x10_3 + 1)) then (if (wrap64 (x10_3 + 1)) < (x9_3.length : Int) then (ashlarlaw07_CnfMeans.l1 k3 t133 t134 t137 t140 x8_2 (x9_3.set ((wrap64 (x10_3 + 1)) : Int).toNat ((Go.bits .and .u64 (shr .u64 x8_2 (ji29)) 1) == 1)) (wrap64 (x10_3 + 1)) a0_0 a0_1 a0_2 l0_3) else (none)) else (none)) else (none)) = some r := by first | (rw [hji29] at H; exact H) | (simp only [hji29] at H ⊢; exact H)
                          by_cases c30 : 0 ≤ (ji29)
                          · rw [if_pos c30] at H
                            have c30b0 := eq_true c30
                            have c30b1 : decide (0 ≤ (ji29)) = true := decide_eq_true c30
                            clear c30
                            obtain ⟨ji31, hji31⟩ : ∃ j_ : Int, (shr .u64 x8_2 (ji29)) = j_ := ⟨_, rfl⟩
                            replace H : (if 0 ≤ (wrap64 (x10_3 + 1)) then (if (wrap64 (x10_3 + 1)) < (x9_3.length : Int) then (ashlarlaw07_CnfMeans.l1 k3 t133 t134 t137 t140 x8_2 (x9_3.set ((wrap64 (x10_3 + 1)) : Int).toNat ((Go.bits .and .u64 (ji31) 1) == 1)) (wrap64 (x10_3 + 1)) a0_0 a0_1 a0_2 l0_3) else (none)) else (none)) = some r := by first | (rw [hji31] at H; exact H) | (simp only [hji31] at H ⊢; exact H)
                            have hji31_ : (x8_2 / 2 ^ min (ji29).toNat 64) = ji31 := hji31
                            have hji31z : (ji29) ≤ 64 → (x8_2 / 2 ^ (ji29).toNat) = ji31 := shr_small hji31
                            obtain ⟨ji32, hji32⟩ : ∃ j_ : Int, (wrap64 (x10_3 + 1)) = j_ := ⟨_, rfl⟩
                            replace H : (if 0 ≤ (ji32) then (if (ji32) < (x9_3.length : Int) then (ashlarlaw07_CnfMeans.l1 k3 t133 t134 t137 t140 x8_2 (x9_3.set ((ji32) : Int).toNat ((Go.bits .and .u64 (ji31) 1) == 1)) ji32 a0_0 a0_1 a0_2 l0_3) else (none)) else (none)) = some r := by first | (rw [hji32] at H; exact H) | (simp only [hji32] at H ⊢; exact H)
                            have hji32w : (IntKind.i64.wrap (x10_3 + 1)) = ji32 := (i64_w _).trans hji32
                            by_cases c33 : 0 ≤ (ji32)
                            · rw [if_pos c33] at H
                              have c33b0 : decide (0 ≤ (ji32)) = true := decide_eq_true c33
                              clear c33
                              by_cases c34 : (ji32) < (x9_3.length : Int)
                              · rw [if_pos c34] at H
                                have c34b0 : decide ((ji32) < (x9_3.length : Int)) = true := decide_eq_true c34
                                clear c34
                                obtain ⟨y145, hy145⟩ : ∃ y_ : List Bool, y_ = (x9_3.set ((ji32) : Int).toNat ((Go.bits .and .u64 (ji31) 1) == 1)) := ⟨_, rfl⟩
                                replace H : (ashlarlaw07_CnfMeans.l1 k3 t133 t134 t137 t140 x8_2 y145 ji32 a0_0 a0_1 a0_2 l0_3) = some r := by first | (rw [hy145]; with_reducible exact H) | (have H2_ := (Option.bind_some _ _).symm.trans H; rw [hy145]; with_reducible exact H2_) | (have H2_ := (Option.bind_some _ _).symm.trans H; with_reducible exact H2_) | with_reducible exact H | (rw [hy145]; exact H) | exact H
                                have Ny145 := Aside0.mk hy145
                                clear hy145
                                have H' := Aside0.mk H
                                clear H
                                have p35 : 0 ≤ ((ji32) : Int) := of_decide_eq_true (by first | (with_reducible assumption) | assumption)
                                have q35 : ((ji32) : Int) < ((x9_3.length : Int) : Int) := of_decide_eq_true (by first | (with_reducible assumption) | assumption)
                                obtain ⟨go35, co35, eo35, gb35, gl35, cl35, HG35⟩ := Kd.R_form HO_9.out (by omega)
                                (first | cases eo35 | (injection eo35 with ea_ en_ ec_; (first | subst ea_ | (injection ea_ with ea_; subst ea_)); subst ec_; clear en_))
                                have GB35 := Aside0.mk gb35
                                have GG35 := Aside0.mk HG35
                                clear gb35 gl35 HG35
                                obtain ⟨hx35_0, hf35_0⟩ := Kd.R_celln false HO_9.out ((ji32) : Int) p35 q35
                                replace p35 := eq_true p35
                                replace q35 := eq_true q35
                                have HP36 := Kd.R_putg HO_9.out ((ji32) : Int) ((Go.bits .and .u64 (ji31) 1) == 1)
                                go_wp2_with (first | ((with_reducible refine gate_store (t := 4) (p := 67) rfl ?_); refine store_event (t := 4) (p := 67) (v := ?vo_w37) (w1 := (wr.setCell ⟨go35, ((ji32) : Int).toNat, none⟩ (.bool ((Go.bits .and .u64 (ji31) 1) == 1)))) ?hg ?ho ?hn ?hr ?_; (case ho => rfl); (case hg => rfl); (case hn => rfl); (case hr => first | (go_simp; done) | (go_simp; rfl)); intro w37 hw; have hg : wr.grownBy w37 (some go35) := (by rw [hw]; exact HP36.2); have hp_ : Kd.R Kd.bool 4 w37 w.heap.size (fun _ => True) (.slice (some ⟨go35, 0, none⟩) x9_3.length co35) y145 := (by rw [hw, Ny145.out]; exact HP36.1); clear HP36; have n0_ := Aside0.mk (Kd.N_afterv (v := (.slice (some ⟨go35, 0, none⟩) x9_3.length co35)) (v1 := (.slice (some ⟨go35, 0, none⟩) x9_3.length co35)) (ok := (fun k_ => k_ ≠ gb132)) (by (with_reducible repeat (first | apply Kd.N_alloc | apply Kd.N_drewN | apply Kd.N_drew)); exact Kd.N_mono HO_4.out (fun _ hk => ⟨hk.2, hk.1⟩)) hg (.inl rfl)); have n1_ := Aside0.mk (Kd.V_afterv (v := (.slice (some ⟨go35, 0, none⟩) x9_3.length co35)) (v1 := (.slice (some ⟨go35, 0, none⟩) x9_3.length co35)) (ok := (fun k_ => some k_ ≠ (v135 : Value).ownBlock ∧ k_ ≠ gb132)) (by (with_reducible repeat (first | apply Kd.V_alloc | apply Kd.V_drewN | apply Kd.V_drew)); exact Kd.V_mono HO_5.out (fun _ hk => ⟨⟨hk.1, hk.2.2⟩, hk.2.1⟩)) hg (.inl rfl)); have n2_ := Aside0.mk (hp_); have n3_ := Aside0.mk (blk_grown (g := gb132) (o := .cells #[.int .i64 a0_0, .string a0_1, .int .i64 a0_2, .slice A0_3 l0_3.length c0_3] 24 (0, 0)) (by (with_reducible repeat (first | refine blk_drewN ?_ _ | refine blk_drew ?_ | refine blk_alloc ?_ _)); exact BK132.out) hg (Kd.R_ne HO_9.out BK132.out (by decide))); have n4_ := Aside0.mk ((by rw [hw]; exact below_set (HB.out) GB35.out : Below w.heap.size w w37)); clear HO_4; clear HO_5; clear HO_9; clear BK132; clear HB; have HO_4 := n0_; have HO_5 := n1_; have HO_9 := n2_; have BK132 := n3_; have HB := n4_; clear n0_ n1_ n2_ n3_ n4_; clear hg hw hp_))
                                go_roundg k3
                                case measure => have := HJ3.out; have := HK2.out; have := HK3.out; omega
                                case rel => exact ⟨(y145), (ji32), (by first | rfl | (simp; done) | (simp only [← hji32] <;> (first | rfl | simp)) | (simp [*]; done)), H', ⟨by have := HJ3.out; have := HK2.out; have := HK3.out; omega⟩, ⟨by (with_reducible repeat (first | apply Kd.N_alloc | apply Kd.N_drewN | apply Kd.N_drew)); exact Kd.N_mono HO_4.out (fun _ hk => ⟨hk.2, hk.1⟩)⟩, ⟨by (with_reducible repeat (first | apply Kd.V_alloc | apply Kd.V_drewN | apply Kd.V_drew)); exact Kd.V_mono HO_5.out (fun _ hk => ⟨hk.1.1, ⟨hk.2, hk.1.2⟩⟩)⟩, ⟨by (with_reducible repeat (first | apply Kd.R_alloc | apply Kd.R_drewN | apply Kd.R_drew)); exact HO_9.out⟩, ⟨by (with_reducible repeat (first | refine blk_drewN ?_ _ | refine blk_drew ?_ | refine blk_alloc ?_ _)); exact BK132.out⟩, ⟨by repeat (first | (with_reducible first | exact HB.out | apply below_alloc | apply pw_below_drewN | apply below_drew1 | refine below_set ?_ GE132.out) | exact HB.out)⟩⟩
                              · rw [if_neg c34] at H
                                exact absurd H (by simp)
                            · rw [if_neg c33] at H
                              exact absurd H (by simp)
                          · rw [if_neg c30] at H
                            exact absurd H (by simp)
                        · rw [if_neg c28] at H
                          have c28b0 : decide (x10_3 < (t137.length : Int)) = false := decide_eq_false c28
                          clear c28
                          have H' := Aside0.mk H
                          clear H
                          go_wp2
                          go_loopg [11] k3 (fun kq v11 w' => ∃ (x9_4 : List Bool) (x11_4 : Int), v11 = .int .i64 x11_4 ∧ Aside0 (ashlarlaw07_CnfMeans.l2 kq t133 t134 t137 t140 x8_2 x9_4 x11_4 a0_0 a0_1 a0_2 l0_3 = some r) ∧ Aside0 (kq ≤ k3) ∧ Aside0 (Kd.N (Kd.slice 3 (Kd.int .i64)) 32 w' w.heap.size (fun k_ => some k_ ≠ (v143 : Value).ownBlock ∧ k_ ≠ gb132) v135 t134) ∧ Aside0 (Kd.V k24 24 w' w.heap.size (fun k_ => some k_ ≠ (v135 : Value).ownBlock ∧ some k_ ≠ (v143 : Value).ownBlock ∧ k_ ≠ gb132) (.slice Ao25 t137.length co25) t137) ∧ Aside0 (Kd.R Kd.bool 4 w' w.heap.size (fun _ => True) v143 x9_4) ∧ Aside0 (w'.heap[gb132]? = some (.cells #[.int .i64 a0_0, .string a0_1, .int .i64 a0_2, (.slice A0_3 l0_3.length c0_3)] 24 (0, 0))) ∧ Aside0 (Below w.heap.size w w'))
                          case atStart => exact ⟨(x9_3), (wrap64 ((t137.length : Int) + 1)), (by first | rfl | (simp; done) | (simp [*]; done)), H', ⟨Nat.le_refl _⟩, ⟨by (with_reducible repeat (first | apply Kd.N_alloc | apply Kd.N_drewN | apply Kd.N_drew)); exact HO_4.out⟩, ⟨by (with_reducible repeat (first | apply Kd.V_alloc | apply Kd.V_drewN | apply Kd.V_drew)); exact HO_5.out⟩, ⟨by (with_reducible repeat (first | apply Kd.R_alloc | apply Kd.R_drewN | apply Kd.R_drew)); exact HO_9.out⟩, ⟨by (with_reducible repeat (first | refine blk_drewN ?_ _ | refine blk_drew ?_ | refine blk_alloc ?_ _)); exact BK132.out⟩, ⟨by repeat (first | (with_reducible first | exact HB.out | apply below_alloc | apply pw_below_drewN | apply below_drew1 | refine below_set ?_ GE132.out) | exact HB.out)⟩⟩
                          case round =>
                            clear H'
                            try clear c1
                            try clear c2
                            try clear p2
                            try clear c3
                            try clear p3
                            try clear q3
                            try clear hx3
                            try clear hf3
                            try clear c4
                            try clear p6
                            try clear c9
                            try clear c9b0
                            try clear c9b1
                            try clear c10
                            try clear c10b0
                            try clear c10b1
                            try clear c12
                            try clear c12b0
                            try clear c12b1
                            try clear c17
                            try clear c19
                            try clear c19b0
                            try clear c19b1
                            try clear c21
                            try clear c21b0
                            try clear c23
                            try clear c23b0
                            try clear c23b1
                            try clear c24
                            try clear c24b0
                            try clear c24b1
                            try clear c28
                            try clear c28b0
                            try clear c30
                            try clear c30b0
                            try clear c30b1
                            try clear c33
                            try clear c33b0
                            try clear c34
                            try clear c34b0
                            try clear p35
                            try clear q35
                            try clear hx35
                            try clear hf35
                            try clear hcz7_0
                            try clear hcz7_1
                            try clear hcz7_2
                            try clear hcz7_3
                            try clear hfz7_0
                            try clear hfz7_1
                            try clear hfz7_2
                            try clear hfz7_3
                            try clear hx35_0
                            try clear p2
                            try clear p35
                            try clear p6
                            try clear q35
                            obtain ⟨x9_4, x11_4, rfl, HA, HK4, HO_4, HO_5, HO_9, BK132, HB⟩ := hrel
                            cases gk with
                            | zero => exact absurd HA.out (by simp [ashlarlaw07_CnfMeans.l2])
                            | succ k4 =>
                              have H := HA.out
                              clear HA
                              simp only [ashlarlaw07_CnfMeans.l2] at H
                              by_cases c38 : x11_4 ≤ t140
                              · rw [if_pos c38] at H
                                have c38b0 : decide (x11_4 ≤ t140) = true := decide_eq_true c38
                                clear c38
                                have H' := Aside0.mk H
                                clear H
                                go_wp2
                                go_loopg [12, 13, 14] k4 (fun kq v12 v13 v14 w' => ∃ (x9_5 : List Bool) (x12_5 : Int) (x13_5 : Bool) (x14_5 : Int), v12 = .int .i64 x12_5 ∧ v13 = .bool x13_5 ∧ v14 = .int .i64 x14_5 ∧ Aside0 (ashlarlaw07_CnfMeans.l3 kq t133 t134 t137 t140 x8_2 x9_5 x11_4 x12_5 x13_5 x14_5 a0_0 a0_1 a0_2 l0_3 = some r) ∧ Aside0 (kq ≤ k4) ∧ Aside0 (Kd.N (Kd.slice 3 (Kd.int .i64)) 32 w' w.heap.size (fun k_ => some k_ ≠ (v143 : Value).ownBlock ∧ k_ ≠ gb132) v135 t134) ∧ Aside0 (Kd.V k24 24 w' w.heap.size (fun k_ => some k_ ≠ (v135 : Value).ownBlock ∧ some k_ ≠ (v143 : Value).ownBlock ∧ k_ ≠ gb132) (.slice Ao25 t137.length co25) t137) ∧ Aside0 (Kd.R Kd.bool 4 w' w.heap.size (fun _ => True) v143 x9_5) ∧ Aside0 (w'.heap[gb132]? = some (.cells #[.int .i64 a0_0, .string a0_1, .int .i64 a0_2, (.slice A0_3 l0_3.length c0_3)] 24 (0, 0))) ∧ Aside0 (Below w.heap.size w w'))
                                case atStart => exact ⟨(x9_4), (0), (false), (0), (by first | rfl | (simp; done) | (simp [*]; done)), (by first | rfl | (simp; done) | (simp [*]; done)), (by first | rfl | (simp; done) | (simp [*]; done)), H', ⟨Nat.le_refl _⟩, ⟨by (with_reducible repeat (first | apply Kd.N_alloc | apply Kd.N_drewN | apply Kd.N_drew)); exact HO_4.out⟩, ⟨by (with_reducible repeat (first | apply Kd.V_alloc | apply Kd.V_drewN | apply Kd.V_drew)); exact HO_5.out⟩, ⟨by (with_reducible repeat (first | apply Kd.R_alloc | apply Kd.R_drewN | apply Kd.R_drew)); exact HO_9.out⟩, ⟨by (with_reducible repeat (first | refine blk_drewN ?_ _ | refine blk_drew ?_ | refine blk_alloc ?_ _)); exact BK132.out⟩, ⟨by repeat (first | (with_reducible first | exact HB.out | apply below_alloc | apply pw_below_drewN | apply below_drew1 | refine below_set ?_ GE132.out) | exact HB.out)⟩⟩
                                case round =>
                                  clear H'
                                  try clear c1
                                  try clear c2
                                  try clear p2
                                  try clear c3
                                  try clear p3
                                  try clear q3
                                  try clear hx3
                                  try clear hf3
                                  try clear c4
                                  try clear p6
                                  try clear c9
                                  try clear c9b0
                                  try clear c9b1
                                  try clear c10
                                  try clear c10b0
                                  try clear c10b1
                                  try clear c12
                                  try clear c12b0
                                  try clear c12b1
                                  try clear c17
                                  try clear c19
                                  try clear c19b0
                                  try clear c19b1
                                  try clear c21
                                  try clear c21b0
                                  try clear c23
                                  try clear c23b0
                                  try clear c23b1
                                  try clear c24
                                  try clear c24b0
                                  try clear c24b1
                                  try clear c28
                                  try clear c28b0
                                  try clear c30
                                  try clear c30b0
                                  try clear c30b1
                                  try clear c33
                                  try clear c33b0
                                  try clear c34
                                  try clear c34b0
                                  try clear p35
                                  try clear q35
                                  try clear hx35
                                  try clear hf35
                                  try clear c38
                                  try clear c38b0
                                  try clear hcz7_0
                                  try clear hcz7_1
                                  try clear hcz7_2
                                  try clear hcz7_3
                                  try clear hfz7_0
                                  try clear hfz7_1
                                  try clear hfz7_2
                                  try clear hfz7_3
                                  try clear hx35_0
                                  try clear p2
                                  try clear p3
                                  try clear p35
                                  try clear p6
                                  try clear q3
                                  try clear q35
                                  obtain ⟨x9_5, x12_5, x13_5, x14_5, rfl, rfl, rfl, HA, HK5, HO_4, HO_5, HO_9, BK132, HB⟩ := hrel
                                  cases gk with
                                  | zero => exact absurd HA.out (by simp [ashlarlaw07_CnfMeans.l3])
                                  | succ k5 =>
                                    have H := HA.out
                                    clear HA
                                    simp only [ashlarlaw07_CnfMeans.l3] at H
                                    by_cases c39 : x14_5 < 2
                                    · rw [if_pos c39] at H
                                      have c39b0 : decide (x14_5 < 2) = true := decide_eq_true c39
                                      clear c39
                                      by_cases c40 : 0 ≤ x11_4
                                      · rw [if_pos c40] at H
                                        have c40b0 : decide (0 ≤ x11_4) = true := decide_eq_true c40
                                        clear c40
                                        by_cases c41 : x11_4 < (x9_5.length : Int)
                                        · rw [if_pos c41] at H
                                          have c41b0 : decide (x11_4 < (x9_5.length : Int)) = true := decide_eq_true c41
                                          clear c41
                                          obtain ⟨y146, hy146⟩ : ∃ y_ : List Bool, y_ = (x9_5.set (x11_4 : Int).toNat (x14_5 == 1)) := ⟨_, rfl⟩
                                          replace H : (if 0 ≤ (wrap64 ((t134.length : Int) - 1)) then (if (wrap64 ((t134.length : Int) - 1)) ≤ (t134.length : Int) then ((ashlarlaw07_known.f k5 (t134.take ((wrap64 ((t134.length : Int) - 1)) : Int).toNat) y146 x11_4).bind fun t152 => (if t152 = true then (ashlarlaw07_CnfMeans.l3 k5 t133 t134 t137 t140 x8_2 y146 x11_4 (wrap64 (x12_5 + 1)) (rdOf false y146 x11_4) (wrap64 (x14_5 + 1)) a0_0 a0_1 a0_2 l0_3) else (ashlarlaw07_CnfMeans.l3 k5 t133 t134 t137 t140 x8_2 y146 x11_4 x12_5 x13_5 (wrap64 (x14_5 + 1)) a0_0 a0_1 a0_2 l0_3))) else (none)) else (none)) = some r := by first | (rw [hy146]; with_reducible exact H) | (have H2_ := (Option.bind_some _ _).symm.trans H; rw [hy146]; with_reducible exact H2_) | (have H2_ := (Option.bind_some _ _).symm.trans H; with_reducible exact H2_) | with_reducible exact H | (rw [hy146]; exact H) | exact H
                                          have Ny146 := Aside0.mk hy146
                                          clear hy146
                                          obtain ⟨ji43, hji43⟩ : ∃ j_ : Int, (wrap64 ((t134.length : Int) - 1)) = j_ := ⟨_, rfl⟩
                                          replace H : (if 0 ≤ (ji43) then (if (ji43) ≤ (t134.length : Int) then ((ashlarlaw07_known.f k5 (t134.take ((ji43) : Int).toNat) y146 x11_4).bind fun t152 => (if t152 = true then (ashlarlaw07_CnfMeans.l3 k5 t133 t134 t137 t140 x8_2 y146 x11_4 (wrap64 (x12_5 + 1)) (rdOf false y146 x11_4) (wrap64 (x14_5 + 1)) a0_0 a0_1 a0_2 l0_3) else (ashlarlaw07_CnfMeans.l3 k5 t133 t134 t137 t140 x8_2 y146 x11_4 x12_5 x13_5 (wrap64 (x14_5 + 1)) a0_0 a0_1 a0_2 l0_3))) else (none)) else (none)) = some r := by first | (rw [hji43] at H; exact H) | (simp only [hji43] at H ⊢; exact H)
                                          have hji43w : (IntKind.i64.wrap ((t134.length : Int) - 1)) = ji43 := (i64_w _).trans hji43
                                          by_cases c44 : 0 ≤ (ji43)
                                          · rw [if_pos c44] at H
                                            have c44b0 := eq_true c44
                                            have c44b1 : decide (0 ≤ (ji43)) = true := decide_eq_true c44
                                            clear c44
                                            by_cases c45 : (ji43) ≤ (t134.length : Int)
                                            · rw [if_pos c45] at H
                                              have c45b0 := eq_true c45
                                              have c45b1 : decide ((ji43) ≤ (t134.length : Int)) = true := decide_eq_true c45
                                              clear c45
                                              obtain ⟨y147, hy147⟩ : ∃ y_ : List (List Int), y_ = (t134.take ((ji43) : Int).toNat) := ⟨_, rfl⟩
                                              replace H : ((ashlarlaw07_known.f k5 y147 y146 x11_4).bind fun t152 => (if t152 = true then (ashlarlaw07_CnfMeans.l3 k5 t133 t134 t137 t140 x8_2 y146 x11_4 (wrap64 (x12_5 + 1)) (rdOf false y146 x11_4) (wrap64 (x14_5 + 1)) a0_0 a0_1 a0_2 l0_3) else (ashlarlaw07_CnfMeans.l3 k5 t133 t134 t137 t140 x8_2 y146 x11_4 x12_5 x13_5 (wrap64 (x14_5 + 1)) a0_0 a0_1 a0_2 l0_3))) = some r := by first | (rw [hy147]; with_reducible exact H) | (have H2_ := (Option.bind_some _ _).symm.trans H; rw [hy147]; with_reducible exact H2_) | (have H2_ := (Option.bind_some _ _).symm.trans H; with_reducible exact H2_) | with_reducible exact H | (rw [hy147]; exact H) | exact H
                                              have Ny147 := Aside0.mk hy147
                                              clear hy147
                                              replace H := Option.bind_eq_some_iff.mp H
                                              obtain ⟨t152, A460, H⟩ := H
                                              replace H : (if t152 = true then (ashlarlaw07_CnfMeans.l3 k5 t133 t134 t137 t140 x8_2 y146 x11_4 (wrap64 (x12_5 + 1)) (rdOf false y146 x11_4) (wrap64 (x14_5 + 1)) a0_0 a0_1 a0_2 l0_3) else (ashlarlaw07_CnfMeans.l3 k5 t133 t134 t137 t140 x8_2 y146 x11_4 x12_5 x13_5 (wrap64 (x14_5 + 1)) a0_0 a0_1 a0_2 l0_3)) = some r := H
                                              have A46 := Aside0.mk A460
                                              clear A460
                                              by_cases c47 : t152 = true
                                              · subst c47
                                                have H1 : (ashlarlaw07_CnfMeans.l3 k5 t133 t134 t137 t140 x8_2 y146 x11_4 (wrap64 (x12_5 + 1)) (rdOf false y146 x11_4) (wrap64 (x14_5 + 1)) a0_0 a0_1 a0_2 l0_3) = some r := by rw [if_pos rfl] at H; exact H
                                                clear H
                                                have H := H1
                                                clear H1
                                                have H' := Aside0.mk H
                                                clear H
                                                have p42 : 0 ≤ (x11_4 : Int) := of_decide_eq_true (by first | (with_reducible assumption) | assumption)
                                                have q42 : (x11_4 : Int) < ((x9_5.length : Int) : Int) := of_decide_eq_true (by first | (with_reducible assumption) | assumption)
                                                obtain ⟨go42, co42, eo42, gb42, gl42, cl42, HG42⟩ := Kd.R_form HO_9.out (by omega)
                                                (first | cases eo42 | (injection eo42 with ea_ en_ ec_; (first | subst ea_ | (injection ea_ with ea_; subst ea_)); subst ec_; clear en_))
                                                have GB42 := Aside0.mk gb42
                                                have GG42 := Aside0.mk HG42
                                                clear gb42 gl42 HG42
                                                obtain ⟨hx42_0, hf42_0⟩ := Kd.R_celln false HO_9.out (x11_4 : Int) p42 q42
                                                replace p42 := eq_true p42
                                                replace q42 := eq_true q42
                                                have HP48 := Kd.R_putg HO_9.out (x11_4 : Int) (x14_5 == 1)
                                                go_wp2_with (first | ((with_reducible refine gate_store (t := 4) (p := 84) rfl ?_); refine store_event (t := 4) (p := 84) (v := ?vo_w49) (w1 := (wr.setCell ⟨go42, (x11_4 : Int).toNat, none⟩ (.bool (x14_5 == 1)))) ?hg ?ho ?hn ?hr ?_; (case ho => rfl); (case hg => rfl); (case hn => rfl); (case hr => first | (go_simp; done) | (go_simp; rfl)); intro w49 hw; have hg : wr.grownBy w49 (some go42) := (by rw [hw]; exact HP48.2); have hp_ : Kd.R Kd.bool 4 w49 w.heap.size (fun _ => True) (.slice (some ⟨go42, 0, none⟩) x9_5.length co42) y146 := (by rw [hw, Ny146.out]; exact HP48.1); clear HP48; have n0_ := Aside0.mk (Kd.N_afterv (v := (.slice (some ⟨go42, 0, none⟩) x9_5.length co42)) (v1 := (.slice (some ⟨go42, 0, none⟩) x9_5.length co42)) (ok := (fun k_ => k_ ≠ gb132)) (by (with_reducible repeat (first | apply Kd.N_alloc | apply Kd.N_drewN | apply Kd.N_drew)); exact Kd.N_mono HO_4.out (fun _ hk => ⟨hk.2, hk.1⟩)) hg (.inl rfl)); have n1_ := Aside0.mk (Kd.V_afterv (v := (.slice (some ⟨go42, 0, none⟩) x9_5.length co42)) (v1 := (.slice (some ⟨go42, 0, none⟩) x9_5.length co42)) (ok := (fun k_ => some k_ ≠ (v135 : Value).ownBlock ∧ k_ ≠ gb132)) (by (with_reducible repeat (first | apply Kd.V_alloc | apply Kd.V_drewN | apply Kd.V_drew)); exact Kd.V_mono HO_5.out (fun _ hk => ⟨⟨hk.1, hk.2.2⟩, hk.2.1⟩)) hg (.inl rfl)); have n2_ := Aside0.mk (hp_); have n3_ := Aside0.mk (blk_grown (g := gb132) (o := .cells #[.int .i64 a0_0, .string a0_1, .int .i64 a0_2, .slice A0_3 l0_3.length c0_3] 24 (0, 0)) (by (with_reducible repeat (first | refine blk_drewN ?_ _ | refine blk_drew ?_ | refine blk_alloc ?_ _)); exact BK132.out) hg (Kd.R_ne HO_9.out BK132.out (by decide))); have n4_ := Aside0.mk ((by rw [hw]; exact below_set (HB.out) GB42.out : Below w.heap.size w w49)); clear HO_4; clear HO_5; clear HO_9; clear BK132; clear HB; have HO_4 := n0_; have HO_5 := n1_; have HO_9 := n2_; have BK132 := n3_; have HB := n4_; clear n0_ n1_ n2_ n3_ n4_; clear hg hw hp_; obtain ⟨Ao50, co50, eo50⟩ := Kd.N_slice HO_4.out; subst eo50; have q51 : ((ji43) : Int) ≤ ((t134.length : Int) : Int) := of_decide_eq_true (by first | (with_reducible assumption) | assumption); obtain ⟨i051, hi051, _, hsz51, _⟩ := info_parts info32; have hroom51 : t134.length ≤ co50 := (Kd.N_reads' HO_4.out).2.1; have hC51 : Kd.F (Kd.slice 3 (Kd.int .i64)) _ _ Ao50 t134.length t134 := (Kd.V_at (base := w.heap.size) (Kd.N_V HO_4.out)).2.2; have hcut51 := cut_to (P := Tryd.prog) 26 32 .i64 Tryd.underlying26 hi051 Ao50 t134.length co50 (ji43) (of_decide_eq_true (by first | (with_reducible assumption) | assumption)) q51 hroom51; have hr51 := Kd.F_take (m := ((ji43) : Int).toNat) hC51 (by omega); have hy51 : y147.length = ((ji43) : Int).toNat := (by rw [Ny147.out, List.length_take]; omega); rw [← Ny147.out] at hr51; rw [← hy51] at hcut51; have HO151 := Aside0.mk (show Kd.V (Kd.slice 3 (Kd.int .i64)) 32 _ w.heap.size _ (.slice Ao50 y147.length co50) y147 from Kd.V_mk (by omega) hr51); have HC151 := Aside0.mk (show y147.length ≤ co50 from by omega); clear hr51 hC51 hroom51 hi051 hsz51; have KY51 := Aside0.mk hy51; clear hy51; replace q51 := eq_true q51) | ((with_reducible refine gate_callee (f := 14) rfl ?_); refine goesL_ (some 92) rfl rfl Tryd.func14 (by kernel_rfl) rfl #[.slice Ao50 y147.length co50, .slice (some ⟨go42, 0, none⟩) y146.length co42, .int .i64 x11_4] rfl (by (try simp only [List.map_toArray, List.map_cons, List.map_nil]); first | done | (rw [show y146.length = x9_5.length from (Kd.R_reads' HO_9.out).1.symm] <;> rfl) | rfl | (simp only [List.length_drop, List.length_take]; rfl)) ?_; (with_reducible refine (ashlarlaw07_known.calls k5 _ _ y147 _ _ y146 x11_4 true _ ?side1 ?side2 ?side3 ?side4 A46.out).mono ?_); (case side1 => repeat (first | exact (Kd.V_reads' HO151.out).2.2 | (with_reducible refine Kd.C_alloc ?_ _) | (with_reducible refine Kd.C_drewN ?_ _) | (with_reducible refine Kd.C_drew ?_))); (case side2 => exact (Kd.V_reads' HO151.out).2.1); (case side3 => repeat (first | exact (Kd.R_reads' HO_9.out).2.2 | (with_reducible refine Kd.C_alloc ?_ _) | (with_reducible refine Kd.C_drewN ?_ _) | (with_reducible refine Kd.C_drew ?_))); (case side4 => rw [show y146.length = x9_5.length from (Kd.R_reads' HO_9.out).1.symm]; exact (Kd.R_reads' HO_9.out).2.1); rintro e w52 ⟨rfl, hb⟩; refine ⟨_, rfl, ?_⟩; have n0_ := Aside0.mk (Kd.N_below (by (with_reducible repeat (first | apply Kd.N_alloc | apply Kd.N_drewN | apply Kd.N_drew)); exact HO_4.out) hb); have n1_ := Aside0.mk (Kd.V_below (by (with_reducible repeat (first | apply Kd.V_alloc | apply Kd.V_drewN | apply Kd.V_drew)); exact HO_5.out) hb); have n2_ := Aside0.mk (Kd.R_below (by (with_reducible repeat (first | apply Kd.R_alloc | apply Kd.R_drewN | apply Kd.R_drew)); exact HO_9.out) hb); have n3_ := Aside0.mk (Kd.V_below (by (with_reducible repeat (first | apply Kd.V_alloc | apply Kd.V_drewN | apply Kd.V_drew)); exact HO151.out) hb); have n4_ := Aside0.mk (blk_below (g := gb132) (o := .cells #[.int .i64 a0_0, .string a0_1, .int .i64 a0_2, .slice A0_3 l0_3.length c0_3] 24 (0, 0)) (by (with_reducible repeat (first | refine blk_drewN ?_ _ | refine blk_drew ?_ | refine blk_alloc ?_ _)); exact BK132.out) hb); have n5_ := Aside0.mk (below_step (by repeat (first | (with_reducible first | exact HB.out | apply below_alloc | apply pw_below_drewN | apply below_drew1 | refine below_set ?_ GE132.out) | exact HB.out)) hb); clear HO_4; clear HO_5; clear HO_9; clear HO151; clear BK132; clear HB; have HO_4 := n0_; have HO_5 := n1_; have HO_9 := n2_; have HO151 := n3_; have BK132 := n4_; have HB := n5_; clear n0_ n1_ n2_ n3_ n4_ n5_; (try clear hb); (try clear hb2); (try clear hk); (try clear hi); have p153 : 0 ≤ (x11_4 : Int) := of_decide_eq_true (by first | (with_reducible assumption) | assumption); have q153 : x11_4 < (y146.length : Int) := (by have h_ : (x11_4 : Int) < ((x9_5.length : Int) : Int) := of_decide_eq_true (by first | (with_reducible assumption) | assumption); first | (have e_ := (Kd.R_reads' HO_9.out).1; omega) | simpa only [Ny146.out, List.length_set] using h_); have ql153 : ((x11_4 : Int) < ((x9_5.length : Int) : Int)) = True := eq_true (of_decide_eq_true (by first | (with_reducible assumption) | assumption)); obtain ⟨ad153, e153, hx153_0⟩ := Kd.at_bool (Kd.R_reads' HO_9.out).2.2 x11_4 p153 q153; obtain rfl : (⟨go42, 0, none⟩ : Addr) = ad153 := (by injection e153); (first | simp only [add_plain] at hx153_0 | simp only [add_at] at hx153_0 | simp only [Addr.add, Nat.zero_add] at hx153_0 | skip); replace p153 := eq_true p153; replace q153 := eq_true q153))
                                                go_roundg k5
                                                case measure => have := HJ3.out; have := HK2.out; have := HK3.out; have := HK4.out; have := HK5.out; omega
                                                case rel => exact ⟨(y146), (wrap64 (x12_5 + 1)), (rdOf false y146 x11_4), (wrap64 (x14_5 + 1)), (by first | rfl | (simp; done) | (simp [*]; done)), (by first | rfl | (simp; done) | (simp [*]; done)), (by first | rfl | (simp; done) | (simp [*]; done)), H', ⟨by have := HJ3.out; have := HK2.out; have := HK3.out; have := HK4.out; have := HK5.out; omega⟩, ⟨by (with_reducible repeat (first | apply Kd.N_alloc | apply Kd.N_drewN | apply Kd.N_drew)); exact Kd.N_mono HO_4.out (fun _ hk => ⟨hk.2, hk.1⟩)⟩, ⟨by (with_reducible repeat (first | apply Kd.V_alloc | apply Kd.V_drewN | apply Kd.V_drew)); exact Kd.V_mono HO_5.out (fun _ hk => ⟨hk.1.1, ⟨hk.2, hk.1.2⟩⟩)⟩, ⟨by (with_reducible repeat (first | apply Kd.R_alloc | apply Kd.R_drewN | apply Kd.R_drew)); exact HO_9.out⟩, ⟨by (with_reducible repeat (first | refine blk_drewN ?_ _ | refine blk_drew ?_ | refine blk_alloc ?_ _)); exact BK132.out⟩, ⟨by repeat (first | (with_reducible first | exact HB.out | apply below_alloc | apply pw_below_drewN | apply below_drew1 | refine below_set ?_ GE132.out) | exact HB.out)⟩⟩
                                              · replace c47 := Bool.eq_false_iff.mpr c47
                                                subst c47
                                                have H1 : (ashlarlaw07_CnfMeans.l3 k5 t133 t134 t137 t140 x8_2 y146 x11_4 x12_5 x13_5 (wrap64 (x14_5 + 1)) a0_0 a0_1 a0_2 l0_3) = some r := by rw [if_neg (show ¬ (false = true) by decide)] at H; exact H
                                                clear H
                                                have H := H1
                                                clear H1
                                                have H' := Aside0.mk H
                                                clear H
                                                have p42 : 0 ≤ (x11_4 : Int) := of_decide_eq_true (by first | (with_reducible assumption) | assumption)
                                                have q42 : (x11_4 : Int) < ((x9_5.length : Int) : Int) := of_decide_eq_true (by first | (with_reducible assumption) | assumption)
                                                obtain ⟨go42, co42, eo42, gb42, gl42, cl42, HG42⟩ := Kd.R_form HO_9.out (by omega)
                                                (first | cases eo42 | (injection eo42 with ea_ en_ ec_; (first | subst ea_ | (injection ea_ with ea_; subst ea_)); subst ec_; clear en_))
                                                have GB42 := Aside0.mk gb42
                                                have GG42 := Aside0.mk HG42
                                                clear gb42 gl42 HG42
                                                obtain ⟨hx42_0, hf42_0⟩ := Kd.R_celln false HO_9.out (x11_4 : Int) p42 q42
                                                replace p42 := eq_true p42
                                                replace q42 := eq_true q42
                                                have HP53 := Kd.R_putg HO_9.out (x11_4 : Int) (x14_5 == 1)
                                                go_wp2_with (first | ((with_reducible refine gate_store (t := 4) (p := 84) rfl ?_); refine store_event (t := 4) (p := 84) (v := ?vo_w54) (w1 := (wr.setCell ⟨go42, (x11_4 : Int).toNat, none⟩ (.bool (x14_5 == 1)))) ?hg ?ho ?hn ?hr ?_; (case ho => rfl); (case hg => rfl); (case hn => rfl); (case hr => first | (go_simp; done) | (go_simp; rfl)); intro w54 hw; have hg : wr.grownBy w54 (some go42) := (by rw [hw]; exact HP53.2); have hp_ : Kd.R Kd.bool 4 w54 w.heap.size (fun _ => True) (.slice (some ⟨go42, 0, none⟩) x9_5.length co42) y146 := (by rw [hw, Ny146.out]; exact HP53.1); clear HP53; have n0_ := Aside0.mk (Kd.N_afterv (v := (.slice (some ⟨go42, 0, none⟩) x9_5.length co42)) (v1 := (.slice (some ⟨go42, 0, none⟩) x9_5.length co42)) (ok := (fun k_ => k_ ≠ gb132)) (by (with_reducible repeat (first | apply Kd.N_alloc | apply Kd.N_drewN | apply Kd.N_drew)); exact Kd.N_mono HO_4.out (fun _ hk => ⟨hk.2, hk.1⟩)) hg (.inl rfl)); have n1_ := Aside0.mk (Kd.V_afterv (v := (.slice (some ⟨go42, 0, none⟩) x9_5.length co42)) (v1 := (.slice (some ⟨go42, 0, none⟩) x9_5.length co42)) (ok := (fun k_ => some k_ ≠ (v135 : Value).ownBlock ∧ k_ ≠ gb132)) (by (with_reducible repeat (first | apply Kd.V_alloc | apply Kd.V_drewN | apply Kd.V_drew)); exact Kd.V_mono HO_5.out (fun _ hk => ⟨⟨hk.1, hk.2.2⟩, hk.2.1⟩)) hg (.inl rfl)); have n2_ := Aside0.mk (hp_); have n3_ := Aside0.mk (blk_grown (g := gb132) (o := .cells #[.int .i64 a0_0, .string a0_1, .int .i64 a0_2, .slice A0_3 l0_3.length c0_3] 24 (0, 0)) (by (with_reducible repeat (first | refine blk_drewN ?_ _ | refine blk_drew ?_ | refine blk_alloc ?_ _)); exact BK132.out) hg (Kd.R_ne HO_9.out BK132.out (by decide))); have n4_ := Aside0.mk ((by rw [hw]; exact below_set (HB.out) GB42.out : Below w.heap.size w w54)); clear HO_4; clear HO_5; clear HO_9; clear BK132; clear HB; have HO_4 := n0_; have HO_5 := n1_; have HO_9 := n2_; have BK132 := n3_; have HB := n4_; clear n0_ n1_ n2_ n3_ n4_; clear hg hw hp_; obtain ⟨Ao55, co55, eo55⟩ := Kd.N_slice HO_4.out; subst eo55; have q56 : ((ji43) : Int) ≤ ((t134.length : Int) : Int) := of_decide_eq_true (by first | (with_reducible assumption) | assumption); obtain ⟨i056, hi056, _, hsz56, _⟩ := info_parts info32; have hroom56 : t134.length ≤ co55 := (Kd.N_reads' HO_4.out).2.1; have hC56 : Kd.F (Kd.slice 3 (Kd.int .i64)) _ _ Ao55 t134.length t134 := (Kd.V_at (base := w.heap.size) (Kd.N_V HO_4.out)).2.2; have hcut56 := cut_to (P := Tryd.prog) 26 32 .i64 Tryd.underlying26 hi056 Ao55 t134.length co55 (ji43) (of_decide_eq_true (by first | (with_reducible assumption) | assumption)) q56 hroom56; have hr56 := Kd.F_take (m := ((ji43) : Int).toNat) hC56 (by omega); have hy56 : y147.length = ((ji43) : Int).toNat := (by rw [Ny147.out, List.length_take]; omega); rw [← Ny147.out] at hr56; rw [← hy56] at hcut56; have HO151 := Aside0.mk (show Kd.V (Kd.slice 3 (Kd.int .i64)) 32 _ w.heap.size _ (.slice Ao55 y147.length co55) y147 from Kd.V_mk (by omega) hr56); have HC151 := Aside0.mk (show y147.length ≤ co55 from by omega); clear hr56 hC56 hroom56 hi056 hsz56; have KY56 := Aside0.mk hy56; clear hy56; replace q56 := eq_true q56) | ((with_reducible refine gate_callee (f := 14) rfl ?_); refine goesL_ (some 92) rfl rfl Tryd.func14 (by kernel_rfl) rfl #[.slice Ao55 y147.length co55, .slice (some ⟨go42, 0, none⟩) y146.length co42, .int .i64 x11_4] rfl (by (try simp only [List.map_toArray, List.map_cons, List.map_nil]); first | done | (rw [show y146.length = x9_5.length from (Kd.R_reads' HO_9.out).1.symm] <;> rfl) | rfl | (simp only [List.length_drop, List.length_take]; rfl)) ?_; (with_reducible refine (ashlarlaw07_known.calls k5 _ _ y147 _ _ y146 x11_4 false _ ?side1 ?side2 ?side3 ?side4 A46.out).mono ?_); (case side1 => repeat (first | exact (Kd.V_reads' HO151.out).2.2 | (with_reducible refine Kd.C_alloc ?_ _) | (with_reducible refine Kd.C_drewN ?_ _) | (with_reducible refine Kd.C_drew ?_))); (case side2 => exact (Kd.V_reads' HO151.out).2.1); (case side3 => repeat (first | exact (Kd.R_reads' HO_9.out).2.2 | (with_reducible refine Kd.C_alloc ?_ _) | (with_reducible refine Kd.C_drewN ?_ _) | (with_reducible refine Kd.C_drew ?_))); (case side4 => rw [show y146.length = x9_5.length from (Kd.R_reads' HO_9.out).1.symm]; exact (Kd.R_reads' HO_9.out).2.1); rintro e w57 ⟨rfl, hb⟩; refine ⟨_, rfl, ?_⟩; have n0_ := Aside0.mk (Kd.N_below (by (with_reducible repeat (first | apply Kd.N_alloc | apply Kd.N_drewN | apply Kd.N_drew)); exact HO_4.out) hb); have n1_ := Aside0.mk (Kd.V_below (by (with_reducible repeat (first | apply Kd.V_alloc | apply Kd.V_drewN | apply Kd.V_drew)); exact HO_5.out) hb); have n2_ := Aside0.mk (Kd.R_below (by (with_reducible repeat (first | apply Kd.R_alloc | apply Kd.R_drewN | apply Kd.R_drew)); exact HO_9.out) hb); have n3_ := Aside0.mk (Kd.V_below (by (with_reducible repeat (first | apply Kd.V_alloc | apply Kd.V_drewN | apply Kd.V_drew)); exact HO151.out) hb); have n4_ := Aside0.mk (blk_below (g := gb132) (o := .cells #[.int .i64 a0_0, .string a0_1, .int .i64 a0_2, .slice A0_3 l0_3.length c0_3] 24 (0, 0)) (by (with_reducible repeat (first | refine blk_drewN ?_ _ | refine blk_drew ?_ | refine blk_alloc ?_ _)); exact BK132.out) hb); have n5_ := Aside0.mk (below_step (by repeat (first | (with_reducible first | exact HB.out | apply below_alloc | apply pw_below_drewN | apply below_drew1 | refine below_set ?_ GE132.out) | exact HB.out)) hb); clear HO_4; clear HO_5; clear HO_9; clear HO151; clear BK132; clear HB; have HO_4 := n0_; have HO_5 := n1_; have HO_9 := n2_; have HO151 := n3_; have BK132 := n4_; have HB := n5_; clear n0_ n1_ n2_ n3_ n4_ n5_; (try clear hb); (try clear hb2); (try clear hk); (try clear hi)))
                                                go_roundg k5
                                                case measure => have := HJ3.out; have := HK2.out; have := HK3.out; have := HK4.out; have := HK5.out; omega
                                                case rel => exact ⟨(y146), (x12_5), (x13_5), (wrap64 (x14_5 + 1)), (by first | rfl | (simp; done) | (simp [*]; done)), (by first | rfl | (simp; done) | (simp [*]; done)), (by first | rfl | (simp; done) | (simp [*]; done)), H', ⟨by have := HJ3.out; have := HK2.out; have := HK3.out; have := HK4.out; have := HK5.out; omega⟩, ⟨by (with_reducible repeat (first | apply Kd.N_alloc | apply Kd.N_drewN | apply Kd.N_drew)); exact Kd.N_mono HO_4.out (fun _ hk => ⟨hk.2, hk.1⟩)⟩, ⟨by (with_reducible repeat (first | apply Kd.V_alloc | apply Kd.V_drewN | apply Kd.V_drew)); exact Kd.V_mono HO_5.out (fun _ hk => ⟨hk.1.1, ⟨hk.2, hk.1.2⟩⟩)⟩, ⟨by (with_reducible repeat (first | apply Kd.R_alloc | apply Kd.R_drewN | apply Kd.R_drew)); exact HO_9.out⟩, ⟨by (with_reducible repeat (first | refine blk_drewN ?_ _ | refine blk_drew ?_ | refine blk_alloc ?_ _)); exact BK132.out⟩, ⟨by repeat (first | (with_reducible first | exact HB.out | apply below_alloc | apply pw_below_drewN | apply below_drew1 | refine below_set ?_ GE132.out) | exact HB.out)⟩⟩
                                            · rw [if_neg c45] at H
                                              exact absurd H (by simp)
                                          · rw [if_neg c44] at H
                                            exact absurd H (by simp)
                                        · rw [if_neg c41] at H
                                          exact absurd H (by simp)
                                      · rw [if_neg c40] at H
                                        exact absurd H (by simp)
                                    · rw [if_neg c39] at H
                                      have c39b0 : decide (x14_5 < 2) = false := decide_eq_false c39
                                      clear c39
                                      by_cases c58 : x12_5 = 1
                                      · rw [if_pos c58] at H
                                        have c58b0 : (x12_5 == 1) = true := beq_iff_eq.mpr c58
                                        have c58b1 : (x12_5 != 1) = false := bne_eq_false_iff_eq.mpr c58
                                        clear c58
                                        by_cases c59 : 0 ≤ x11_4
                                        · rw [if_pos c59] at H
                                          have c59b0 : decide (0 ≤ x11_4) = true := decide_eq_true c59
                                          clear c59
                                          by_cases c60 : x11_4 < (x9_5.length : Int)
                                          · rw [if_pos c60] at H
                                            have c60b0 : decide (x11_4 < (x9_5.length : Int)) = true := decide_eq_true c60
                                            clear c60
                                            obtain ⟨y154, hy154⟩ : ∃ y_ : List Bool, y_ = (x9_5.set (x11_4 : Int).toNat x13_5) := ⟨_, rfl⟩
                                            replace H : (ashlarlaw07_CnfMeans.l2 k5 t133 t134 t137 t140 x8_2 y154 (wrap64 (x11_4 + 1)) a0_0 a0_1 a0_2 l0_3) = some r := by first | (rw [hy154]; with_reducible exact H) | (have H2_ := (Option.bind_some _ _).symm.trans H; rw [hy154]; with_reducible exact H2_) | (have H2_ := (Option.bind_some _ _).symm.trans H; with_reducible exact H2_) | with_reducible exact H | (rw [hy154]; exact H) | exact H
                                            have Ny154 := Aside0.mk hy154
                                            clear hy154
                                            have H' := Aside0.mk H
                                            clear H
                                            have p61 : 0 ≤ (x11_4 : Int) := of_decide_eq_true (by first | (with_reducible assumption) | assumption)
                                            have q61 : (x11_4 : Int) < ((x9_5.length : Int) : Int) := of_decide_eq_true (by first | (with_reducible assumption) | assumption)
                                            obtain ⟨go61, co61, eo61, gb61, gl61, cl61, HG61⟩ := Kd.R_form HO_9.out (by omega)
                                            (first | cases eo61 | (injection eo61 with ea_ en_ ec_; (first | subst ea_ | (injection ea_ with ea_; subst ea_)); subst ec_; clear en_))
                                            have GB61 := Aside0.mk gb61
                                            have GG61 := Aside0.mk HG61
                                            clear gb61 gl61 HG61
                                            obtain ⟨hx61_0, hf61_0⟩ := Kd.R_celln false HO_9.out (x11_4 : Int) p61 q61
                                            replace p61 := eq_true p61
                                            replace q61 := eq_true q61
                                            have HP62 := Kd.R_putg HO_9.out (x11_4 : Int) x13_5
                                            go_wp2_with (first | ((with_reducible refine gate_store (t := 4) (p := 104) rfl ?_); refine store_event (t := 4) (p := 104) (v := ?vo_w63) (w1 := (wr.setCell ⟨go61, (x11_4 : Int).toNat, none⟩ (.bool x13_5))) ?hg ?ho ?hn ?hr ?_; (case ho => rfl); (case hg => rfl); (case hn => rfl); (case hr => first | (go_simp; done) | (go_simp; rfl)); intro w63 hw; have hg : wr.grownBy w63 (some go61) := (by rw [hw]; exact HP62.2); have hp_ : Kd.R Kd.bool 4 w63 w.heap.size (fun _ => True) (.slice (some ⟨go61, 0, none⟩) x9_5.length co61) y154 := (by rw [hw, Ny154.out]; exact HP62.1); clear HP62; have n0_ := Aside0.mk (Kd.N_afterv (v := (.slice (some ⟨go61, 0, none⟩) x9_5.length co61)) (v1 := (.slice (some ⟨go61, 0, none⟩) x9_5.length co61)) (ok := (fun k_ => k_ ≠ gb132)) (by (with_reducible repeat (first | apply Kd.N_alloc | apply Kd.N_drewN | apply Kd.N_drew)); exact Kd.N_mono HO_4.out (fun _ hk => ⟨hk.2, hk.1⟩)) hg (.inl rfl)); have n1_ := Aside0.mk (Kd.V_afterv (v := (.slice (some ⟨go61, 0, none⟩) x9_5.length co61)) (v1 := (.slice (some ⟨go61, 0, none⟩) x9_5.length co61)) (ok := (fun k_ => some k_ ≠ (v135 : Value).ownBlock ∧ k_ ≠ gb132)) (by (with_reducible repeat (first | apply Kd.V_alloc | apply Kd.V_drewN | apply Kd.V_drew)); exact Kd.V_mono HO_5.out (fun _ hk => ⟨⟨hk.1, hk.2.2⟩, hk.2.1⟩)) hg (.inl rfl)); have n2_ := Aside0.mk (hp_); have n3_ := Aside0.mk (blk_grown (g := gb132) (o := .cells #[.int .i64 a0_0, .string a0_1, .int .i64 a0_2, .slice A0_3 l0_3.length c0_3] 24 (0, 0)) (by (with_reducible repeat (first | refine blk_drewN ?_ _ | refine blk_drew ?_ | refine blk_alloc ?_ _)); exact BK132.out) hg (Kd.R_ne HO_9.out BK132.out (by decide))); have n4_ := Aside0.mk ((by rw [hw]; exact below_set (HB.out) GB61.out : Below w.heap.size w w63)); clear HO_4; clear HO_5; clear HO_9; clear BK132; clear HB; have HO_4 := n0_; have HO_5 := n1_; have HO_9 := n2_; have BK132 := n3_; have HB := n4_; clear n0_ n1_ n2_ n3_ n4_; clear hg hw hp_))
                                            go_roundg k5
                                            case measure => have := HJ3.out; have := HK2.out; have := HK3.out; have := HK4.out; have := HK5.out; omega
                                            case rel => exact ⟨(y154), (wrap64 (x11_4 + 1)), (by first | rfl | (simp; done) | (simp [*]; done)), H', ⟨by have := HJ3.out; have := HK2.out; have := HK3.out; have := HK4.out; have := HK5.out; omega⟩, ⟨by (with_reducible repeat (first | apply Kd.N_alloc | apply Kd.N_drewN | apply Kd.N_drew)); exact Kd.N_mono HO_4.out (fun _ hk => ⟨hk.2, hk.1⟩)⟩, ⟨by (with_reducible repeat (first | apply Kd.V_alloc | apply Kd.V_drewN | apply Kd.V_drew)); exact Kd.V_mono HO_5.out (fun _ hk => ⟨hk.1.1, ⟨hk.2, hk.1.2⟩⟩)⟩, ⟨by (with_reducible repeat (first | apply Kd.R_alloc | apply Kd.R_drewN | apply Kd.R_drew)); exact HO_9.out⟩, ⟨by (with_reducible repeat (first | refine blk_drewN ?_ _ | refine blk_drew ?_ | refine blk_alloc ?_ _)); exact BK132.out⟩, ⟨by repeat (first | (with_reducible first | exact HB.out | apply below_alloc | apply pw_below_drewN | apply below_drew1 | refine below_set ?_ GE132.out) | exact HB.out)⟩⟩
                                          · rw [if_neg c60] at H
                                            exact absurd H (by simp)
                                        · rw [if_neg c59] at H
                                          exact absurd H (by simp)
                                      · rw [if_neg c58] at H
                                        have c58b0 : (x12_5 == 1) = false := beq_eq_false_iff_ne.mpr c58
                                        have c58b1 : (x12_5 != 1) = true := bne_iff_ne.mpr c58
                                        exact absurd (Option.some.inj H) (by rw [hr]; decide)
                              · rw [if_neg c38] at H
                                have c38b0 : decide (x11_4 ≤ t140) = false := decide_eq_false c38
                                clear c38
                                obtain ⟨ji64, hji64⟩ : ∃ j_ : Int, (wrap64 ((t134.length : Int) - 1)) = j_ := ⟨_, rfl⟩
                                replace H : (if 0 ≤ (ji64) then (if (ji64) ≤ (t134.length : Int) then ((ashlarlaw07_known.f k4 (t134.take ((ji64) : Int).toNat) x9_4 t140).bind fun t160 => (if t160 = true then (if (ji64) < (t134.length : Int) then ((ashlarlaw07_holds.f k4 (rd_L2 t134 (ji64)) x9_4).bind fun t162 => ((ashlarlaw07_truth.f k4 t137 x8_2 a0_0 a0_1 a0_2 l0_3).bind fun t163 => (if (t162 != t163) = true then (some false) else (ashlarlaw07_CnfMeans.l0 k4 t133 t134 t137 t140 (IntKind.u64.wrap (x8_2 + 1)) a0_0 a0_1 a0_2 l0_3)))) else (none)) else (some false))) else (none)) else (none)) = some r := by first | (rw [hji64] at H; exact H) | (simp only [hji64] at H ⊢; exact H)
                                have hji64w : (IntKind.i64.wrap ((t134.length : Int) - 1)) = ji64 := (i64_w _).trans hji64
                                by_cases c65 : 0 ≤ (ji64)
                                · rw [if_pos c65] at H
                                  have c65b0 := eq_true c65
                                  have c65b1 : decide (0 ≤ (ji64)) = true := decide_eq_true c65
                                  clear c65
                                  by_cases c66 : (ji64) ≤ (t134.length : Int)
                                  · rw [if_pos c66] at H
                                    have c66b0 := eq_true c66
                                    have c66b1 : decide ((ji64) ≤ (t134.length : Int)) = true := decide_eq_true c66
                                    clear c66
                                    obtain ⟨y155, hy155⟩ : ∃ y_ : List (List Int), y_ = (t134.take ((ji64) : Int).toNat) := ⟨_, rfl⟩
                                    replace H : ((ashlarlaw07_known.f k4 y155 x9_4 t140).bind fun t160 => (if t160 = true then (if (ji64) < (t134.length : Int) then ((ashlarlaw07_holds.f k4 (rd_L2 t134 (ji64)) x9_4).bind fun t162 => ((ashlarlaw07_truth.f k4 t137 x8_2 a0_0 a0_1 a0_2 l0_3).bind fun t163 => (if (t162 != t163) = true then (some false) else (ashlarlaw07_CnfMeans.l0 k4 t133 t134 t137 t140 (IntKind.u64.wrap (x8_2 + 1)) a0_0 a0_1 a0_2 l0_3)))) else (none)) else (some false))) = some r := by first | (rw [hy155]; with_reducible exact H) | (have H2_ := (Option.bind_some _ _).symm.trans H; rw [hy155]; with_reducible exact H2_) | (have H2_ := (Option.bind_some _ _).symm.trans H; with_reducible exact H2_) | with_reducible exact H | (rw [hy155]; exact H) | exact H
                                    have Ny155 := Aside0.mk hy155
                                    clear hy155
                                    replace H := Option.bind_eq_some_iff.mp H
                                    obtain ⟨t160, A670, H⟩ := H
                                    replace H : (if t160 = true then (if (ji64) < (t134.length : Int) then ((ashlarlaw07_holds.f k4 (rd_L2 t134 (ji64)) x9_4).bind fun t162 => ((ashlarlaw07_truth.f k4 t137 x8_2 a0_0 a0_1 a0_2 l0_3).bind fun t163 => (if (t162 != t163) = true then (some false) else (ashlarlaw07_CnfMeans.l0 k4 t133 t134 t137 t140 (IntKind.u64.wrap (x8_2 + 1)) a0_0 a0_1 a0_2 l0_3)))) else (none)) else (some false)) = some r := H
                                    have A67 := Aside0.mk A670
                                    clear A670
                                    by_cases c68 : t160 = true
                                    · subst c68
                                      have H1 : (if (ji64) < (t134.length : Int) then ((ashlarlaw07_holds.f k4 (rd_L2 t134 (ji64)) x9_4).bind fun t162 => ((ashlarlaw07_truth.f k4 t137 x8_2 a0_0 a0_1 a0_2 l0_3).bind fun t163 => (if (t162 != t163) = true then (some false) else (ashlarlaw07_CnfMeans.l0 k4 t133 t134 t137 t140 (IntKind.u64.wrap (x8_2 + 1)) a0_0 a0_1 a0_2 l0_3)))) else (none)) = some r := by rw [if_pos rfl] at H; exact H
                                      clear H
                                      have H := H1
                                      clear H1
                                      by_cases c69 : (ji64) < (t134.length : Int)
                                      · rw [if_pos c69] at H
                                        have c69b0 : decide ((ji64) < (t134.length : Int)) = true := decide_eq_true c69
                                        clear c69
                                        replace H := Option.bind_eq_some_iff.mp H
                                        obtain ⟨t162, A700, H⟩ := H
                                        replace H : ((ashlarlaw07_truth.f k4 t137 x8_2 a0_0 a0_1 a0_2 l0_3).bind fun t163 => (if (t162 != t163) = true then (some false) else (ashlarlaw07_CnfMeans.l0 k4 t133 t134 t137 t140 (IntKind.u64.wrap (x8_2 + 1)) a0_0 a0_1 a0_2 l0_3))) = some r := H
                                        have A70 := Aside0.mk A700
                                        clear A700
                                        replace H := Option.bind_eq_some_iff.mp H
                                        obtain ⟨t163, A710, H⟩ := H
                                        replace H : (if (t162 != t163) = true then (some false) else (ashlarlaw07_CnfMeans.l0 k4 t133 t134 t137 t140 (IntKind.u64.wrap (x8_2 + 1)) a0_0 a0_1 a0_2 l0_3)) = some r := H
                                        have A71 := Aside0.mk A710
                                        clear A710
                                        by_cases c72 : (t162 != t163) = true
                                        · rw [if_pos c72] at H
                                          have c72b0 : (t162 != t163) = true := c72
                                          (try (have c72b1 : decide (t162 = t163) = false := by simpa using c72))
                                          (try (have c72b2 : (t162 == t163) = false := by simpa using c72))
                                          (try (have c72b3 : ¬ (t162 = t163) := by simpa using c72))
                                          clear c72
                                          exact absurd (Option.some.inj H) (by rw [hr]; decide)
                                        · rw [if_neg c72] at H
                                          have c72b0 : (t162 != t163) = false := by simpa using c72
                                          (try (have c72b1 : decide (t162 = t163) = true := by simpa using c72))
                                          (try (have c72b2 : (t162 == t163) = true := by simpa using c72))
                                          clear c72
                                          have H' := Aside0.mk H
                                          clear H
                                          try go_wp2
                                          have n0_ := Aside0.mk (Kd.N_drew HO_4.out)
                                          have n1_ := Aside0.mk (Kd.V_drew HO_5.out)
                                          have n2_ := Aside0.mk (Kd.R_drew HO_9.out)
                                          have n3_ := Aside0.mk (blk_drew BK132.out)
                                          have n4_ := Aside0.mk (below_drew1 HB.out)
                                          clear HO_4
                                          clear HO_5
                                          clear HO_9
                                          clear BK132
                                          clear HB
                                          have HO_4 := n0_
                                          have HO_5 := n1_
                                          have HO_9 := n2_
                                          have BK132 := n3_
                                          have HB := n4_
                                          clear n0_ n1_ n2_ n3_ n4_
                                          obtain ⟨Ao80, co80, eo80⟩ := Kd.N_slice HO_4.out
                                          (first | subst eo80 | (injection eo80 with f1_ f2_ f3_; have f4_ := f1_.symm; have f5_ := f3_.symm; clear f1_ f2_ f3_; subst f4_; subst f5_))
                                          have q81 : ((ji64) : Int) ≤ ((t134.length : Int) : Int) := of_decide_eq_true (by first | (with_reducible assumption) | assumption)
                                          obtain ⟨i081, hi081, _, hsz81, _⟩ := info_parts info32
                                          have hroom81 : t134.length ≤ co80 := (Kd.N_reads' HO_4.out).2.1
                                          have hC81 : Kd.F (Kd.slice 3 (Kd.int .i64)) _ _ Ao80 t134.length t134 := (Kd.V_at (base := w.heap.size) (Kd.N_V HO_4.out)).2.2
                                          have hcut81 := cut_to (P := Tryd.prog) 26 32 .i64 Tryd.underlying26 hi081 Ao80 t134.length co80 (ji64) (of_decide_eq_true (by first | (with_reducible assumption) | assumption)) q81 hroom81
                                          have hr81 := Kd.F_take (m := ((ji64) : Int).toNat) hC81 (by omega)
                                          have hy81 : y155.length = ((ji64) : Int).toNat := (by rw [Ny155.out, List.length_take]; omega)
                                          rw [← Ny155.out] at hr81
                                          rw [← hy81] at hcut81
                                          have HO159 := Aside0.mk (show Kd.V (Kd.slice 3 (Kd.int .i64)) 32 _ w.heap.size _ (.slice Ao80 y155.length co80) y155 from Kd.V_mk (by omega) hr81)
                                          have HC159 := Aside0.mk (show y155.length ≤ co80 from by omega)
                                          clear hr81 hC81 hroom81 hi081 hsz81
                                          have KY81 := Aside0.mk hy81
                                          clear hy81
                                          replace q81 := eq_true q81
                                          obtain ⟨Ao82, co82, eo82⟩ := Kd.R_slice HO_9.out
                                          (first | subst eo82 | (injection eo82 with f1_ f2_ f3_; have f4_ := f1_.symm; have f5_ := f3_.symm; clear f1_ f2_ f3_; subst f4_; subst f5_))
                                          have p161 : 0 ≤ ((ji64) : Int) := of_decide_eq_true (by first | (with_reducible assumption) | assumption)
                                          have q161 : (ji64) < (t134.length : Int) := of_decide_eq_true (by first | (with_reducible assumption) | assumption)
                                          obtain ⟨ad161, A161_0, c161_0, e161, hx161_0, hl161_0, hi161_0⟩ := at_L2 (Kd.N_reads' HO_4.out).2.2 (ji64) p161 q161
                                          cases e161
                                          obtain ⟨ce161, hce161, hMe161, hcc161⟩ := Kd.N_get HO_4.out [] (ji64) p161 (by first | exact q161 | exact of_decide_eq_true (by first | (with_reducible assumption) | assumption) | (have e_ := (Kd.N_reads' HO_4.out).1; omega))
                                          obtain ⟨ua161_0, uc161_0, rfl, ul161_0, ge161_0⟩ := Kd.FK_slice_open hMe161
                                          have hv161_0 := hcc161 0 _ rfl
                                          rw [Nat.add_zero, show ((Kd.slice 3 (Kd.int .i64))).sz = 1 from rfl, Nat.mul_one] at hv161_0
                                          replace hv161_0 := Option.some.inj (hv161_0.symm.trans hx161_0)
                                          injection hv161_0 with hva_ hvn_ hvc_
                                          rw [hva_] at ge161_0
                                          rw [hvc_] at ul161_0
                                          have HL161_0 := Aside0.mk (show Kd.V (Kd.int .i64) 3 _ w.heap.size _ _ (rd_L2 t134 (ji64)) from Kd.V_mk ul161_0 ge161_0)
                                          clear hva_ hvn_ hvc_ ge161_0 ul161_0
                                          clear hcc161 hce161
                                          have HR161_0 := Aside0.mk hi161_0
                                          have HC161_0 := Aside0.mk hl161_0
                                          clear hi161_0 hl161_0
                                          replace p161 := eq_true p161
                                          replace q161 := eq_true q161
                                          refine start_ (n := 24) (S := fun w' => w'.cell? ⟨gb132, 0, none⟩ = some (.int .i64 a0_0) ∧ w'.cell? ⟨gb132, 1, none⟩ = some (.string a0_1) ∧ w'.cell? ⟨gb132, 2, none⟩ = some (.int .i64 a0_2) ∧ w'.cell? ⟨gb132, 3, none⟩ = some (.slice A0_3 l0_3.length c0_3) ∧ w'.cell? (ad161.add ((ji64)).toNat) = some (.slice A161_0 (rd_L2 t134 (ji64)).length c161_0)) (ds := []) #[false, false, false, false, false, false, false, false, false, false, false, false, false, false, false, false, false, false, false, false, false, false, false, false] (by kernel_rfl) rfl rfl ⟨(blk_cell BK132.out 0).trans rfl, (blk_cell BK132.out 1).trans rfl, (blk_cell BK132.out 2).trans rfl, (blk_cell BK132.out 3).trans rfl, hx161_0⟩ (fun hHeld => ?_); refine with_tabW ashlarlaw07_CnfMeans.tab28 ashlarlaw07_CnfMeans.bits28 (fun HT_ HW_ => ?_)
                                          generalize wr.drew = w79 at HO_4 HO_5 HO_9 BK132 HB HL161_0 HO159 HR161_0 hx161_0 hHeld ⊢
                                          refine pure_ (i := 0) (N := some 105) (v := ?_) (a' := ?_) #[true, false, false, false, false, false, false, false, false, false, false, false, false, false, false, false, false, false, false, false, false, false, false, false] rfl rfl (any_of HT_.out (by kernel_rfl)) (fun _ _ _ h => h) (Or.inl ⟨by rfl, ?_⟩) ?_ ?_
                                          rotate_left
                                          · intro w'
                                            go_simp
                                            with_reducible rfl
                                          rotate_left
                                          · simp only [Act.put, List.setIfInBounds_toArray, List.set_cons_zero, List.set_cons_succ, i64_w, i32_w]
                                            rfl
                                          refine pure_ (i := 1) (N := some 106) (v := ?_) (a' := ?_) #[true, true, false, false, false, false, false, false, false, false, false, false, false, false, false, false, false, false, false, false, false, false, false, false] rfl rfl (any_of HT_.out (by kernel_rfl)) (fun _ _ _ h => h) (Or.inl ⟨by rfl, ?_⟩) ?_ ?_
                                          rotate_left
                                          · intro w'
                                            go_simp
                                            with_reducible rfl
                                          rotate_left
                                          · simp only [Act.put, List.setIfInBounds_toArray, List.set_cons_zero, List.set_cons_succ, i64_w, i32_w]
                                            rfl
                                          refine pure_ (i := 2) (N := some 107) (v := ?_) (a' := ?_) #[true, true, true, false, false, false, false, false, false, false, false, false, false, false, false, false, false, false, false, false, false, false, false, false] rfl rfl (any_of HT_.out (by kernel_rfl)) (fun _ _ _ h => h) (Or.inl ⟨by rfl, ?_⟩) ?_ ?_
                                          rotate_left
                                          · intro w'
                                            go_simp
                                            with_reducible rfl
                                          rotate_left
                                          · simp only [Act.put, List.setIfInBounds_toArray, List.set_cons_zero, List.set_cons_succ, i64_w, i32_w]
                                            rfl
                                          refine pure_ (i := 3) (N := some 108) (v := ?_) (a' := ?_) #[true, true, true, true, false, false, false, false, false, false, false, false, false, false, false, false, false, false, false, false, false, false, false, false] rfl rfl (any_of HT_.out (by kernel_rfl)) (fun _ _ _ h => h) (Or.inl ⟨by rfl, ?_⟩) ?_ ?_
                                          rotate_left
                                          · intro w'
                                            go_simp
                                            with_reducible rfl
                                          rotate_left
                                          · simp only [Act.put, List.setIfInBounds_toArray, List.set_cons_zero, List.set_cons_succ, i64_w, i32_w]
                                            rfl
                                          refine pure_ (i := 4) (N := some 109) (v := ?_) (a' := ?_) #[true, true, true, true, true, false, false, false, false, false, false, false, false, false, false, false, false, false, false, false, false, false, false, false] rfl rfl (any_of HT_.out (by kernel_rfl)) (fun _ _ _ h => h) (Or.inl ⟨by rfl, ?_⟩) ?_ ?_
                                          rotate_left
                                          · intro w'
                                            go_simp
                                            with_reducible rfl
                                          rotate_left
                                          · simp only [Act.put, List.setIfInBounds_toArray, List.set_cons_zero, List.set_cons_succ, i64_w, i32_w]
                                            rfl
                                          refine pure_ (i := 5) (N := some 110) (v := ?_) (a' := ?_) #[true, true, true, true, true, true, false, false, false, false, false, false, false, false, false, false, false, false, false, false, false, false, false, false] rfl rfl (any_of HT_.out (by kernel_rfl)) (fun _ _ _ h => h) (Or.inl ⟨by rfl, ?_⟩) ?_ ?_
                                          rotate_left
                                          · intro w'
                                            go_simp
                                            with_reducible rfl
                                          rotate_left
                                          · simp only [Act.put, List.setIfInBounds_toArray, List.set_cons_zero, List.set_cons_succ, i64_w, i32_w]
                                            rfl
                                          refine pure_ (i := 6) (N := some 111) (v := ?_) (a' := ?_) #[true, true, true, true, true, true, true, false, false, false, false, false, false, false, false, false, false, false, false, false, false, false, false, false] rfl rfl (any_of HT_.out (by kernel_rfl)) (fun _ _ _ h => h) (Or.inl ⟨by rfl, ?_⟩) ?_ ?_
                                          rotate_left
                                          · intro w'
                                            go_simp
                                            with_reducible rfl
                                          rotate_left
                                          · simp only [Act.put, List.setIfInBounds_toArray, List.set_cons_zero, List.set_cons_succ, i64_w, i32_w]
                                            rfl
                                          refine one_ (i := 7) (N := some 112) #[true, true, true, true, true, true, true, true, false, false, false, false, false, false, false, false, false, false, false, false, false, false, false, false] rfl rfl (one_of HT_.out (by kernel_rfl)) (by decide) (fun K hK => ?_)
                                          refine goes_ Tryd.func14 (by kernel_rfl) rfl #[.slice (some ad161) y155.length co80, .slice Ao82 x9_4.length co82, .int .i64 t140] (by rfl) rfl rfl (by (try simp only [List.map_toArray, List.map_cons, List.map_nil]); first | done | rfl | (simp only [List.length_drop, List.length_take]; rfl)) ?_
                                          with_reducible refine (ashlarlaw07_known.calls k4 _ _ y155 _ _ x9_4 t140 true _ ?side1 ?side2 ?side3 ?side4 A67.out).mono ?_
                                          (case side1 => repeat (first | exact (Kd.V_reads' HO159.out).2.2 | (with_reducible refine Kd.C_alloc ?_ _) | (with_reducible refine Kd.C_drewN ?_ _) | (with_reducible refine Kd.C_drew ?_)))
                                          (case side2 => exact (Kd.V_reads' HO159.out).2.1)
                                          (case side3 => repeat (first | exact (Kd.R_reads' HO_9.out).2.2 | (with_reducible refine Kd.C_alloc ?_ _) | (with_reducible refine Kd.C_drewN ?_ _) | (with_reducible refine Kd.C_drew ?_)))
                                          (case side4 => exact (Kd.R_reads' HO_9.out).2.1)
                                          rintro e w83 ⟨rfl, hb⟩
                                          replace HL161_0 := Aside0.mk (Kd.V_below HL161_0.out hb)
                                          replace HR161_0 := Aside0.mk (Kd.C_below HR161_0.out hb)
                                          have HS4_ := (hb.cell (World.block_lt_of_cell? _ _ (hHeld.2.2.2.2))).trans (hHeld.2.2.2.2)
                                          refine ⟨_, rfl, ?_⟩
                                          have n0_ := Aside0.mk (Kd.N_below (by (with_reducible repeat (first | apply Kd.N_alloc | apply Kd.N_drewN | apply Kd.N_drew)); exact HO_4.out) hb)
                                          have n1_ := Aside0.mk (Kd.V_below (by (with_reducible repeat (first | apply Kd.V_alloc | apply Kd.V_drewN | apply Kd.V_drew)); exact HO_5.out) hb)
                                          have n2_ := Aside0.mk (Kd.R_below (by (with_reducible repeat (first | apply Kd.R_alloc | apply Kd.R_drewN | apply Kd.R_drew)); exact HO_9.out) hb)
                                          have n3_ := Aside0.mk (Kd.V_below (by (with_reducible repeat (first | apply Kd.V_alloc | apply Kd.V_drewN | apply Kd.V_drew)); exact HO159.out) hb)
                                          have n4_ := Aside0.mk (blk_below (g := gb132) (o := .cells #[.int .i64 a0_0, .string a0_1, .int .i64 a0_2, .slice A0_3 l0_3.length c0_3] 24 (0, 0)) (by (with_reducible repeat (first | refine blk_drewN ?_ _ | refine blk_drew ?_ | refine blk_alloc ?_ _)); exact BK132.out) hb)
                                          have n5_ := Aside0.mk (below_step (by repeat (first | (with_reducible first | exact HB.out | apply below_alloc | apply pw_below_drewN | apply below_drew1 | refine below_set ?_ GE132.out) | exact HB.out)) hb)
                                          clear HO_4
                                          clear HO_5
                                          clear HO_9
                                          clear HO159
                                          clear BK132
                                          clear HB
                                          have HO_4 := n0_
                                          have HO_5 := n1_
                                          have HO_9 := n2_
                                          have HO159 := n3_
                                          have BK132 := n4_
                                          have HB := n5_
                                          clear n0_ n1_ n2_ n3_ n4_ n5_
                                          (try clear hb)
                                          (try clear hb2)
                                          (try clear hk)
                                          (try clear hi)
                                          refine hK.out _ _ ⟨(blk_cell BK132.out 0).trans rfl, (blk_cell BK132.out 1).trans rfl, (blk_cell BK132.out 2).trans rfl, (blk_cell BK132.out 3).trans rfl, HS4_⟩ (fun hHeld => ?_)
                                          clear hK K
                                          refine norm_ (a' := ?_) ?_ ?_
                                          rotate_left
                                          · show Act.put _ (some 112) _ = _
                                            simp only [Act.put, List.setIfInBounds_toArray, List.set_cons_zero, List.set_cons_succ, i64_w, i32_w]
                                            rfl
                                          refine pure_ (i := 8) (N := some 113) (v := ?_) (a' := ?_) #[true, true, true, true, true, true, true, true, true, false, false, false, false, false, false, false, false, false, false, false, false, false, false, false] rfl rfl (any_of HT_.out (by kernel_rfl)) (fun _ _ _ h => h) (Or.inl ⟨by rfl, ?_⟩) ?_ ?_
                                          rotate_left
                                          · intro w'
                                            go_simp
                                            with_reducible rfl
                                          rotate_left
                                          · simp only [Act.put, List.setIfInBounds_toArray, List.set_cons_zero, List.set_cons_succ, i64_w, i32_w]
                                            rfl
                                          refine pure_ (i := 9) (N := some 114) (v := ?_) (a' := ?_) #[true, true, true, true, true, true, true, true, true, true, false, false, false, false, false, false, false, false, false, false, false, false, false, false] rfl rfl (any_of HT_.out (by kernel_rfl)) (fun _ _ _ h => h) (Or.inl ⟨by rfl, ?_⟩) ?_ ?_
                                          rotate_left
                                          · intro w'
                                            go_simp
                                            with_reducible rfl
                                          rotate_left
                                          · simp only [Act.put, List.setIfInBounds_toArray, List.set_cons_zero, List.set_cons_succ, i64_w, i32_w]
                                            rfl
                                          refine pure_ (i := 10) (N := some 115) (v := ?_) (a' := ?_) #[true, true, true, true, true, true, true, true, true, true, true, false, false, false, false, false, false, false, false, false, false, false, false, false] rfl rfl (any_of HT_.out (by kernel_rfl)) (fun _ _ _ h => h) (Or.inl ⟨by rfl, ?_⟩) ?_ ?_
                                          rotate_left
                                          · intro w'
                                            go_simp
                                            with_reducible rfl
                                          rotate_left
                                          · simp only [Act.put, List.setIfInBounds_toArray, List.set_cons_zero, List.set_cons_succ, i64_w, i32_w]
                                            rfl
                                          refine pure_ (i := 11) (N := some 116) (v := ?_) (a' := ?_) #[true, true, true, true, true, true, true, true, true, true, true, true, false, false, false, false, false, false, false, false, false, false, false, false] rfl rfl (any_of HT_.out (by kernel_rfl)) (fun _ _ _ h => h) (Or.inl ⟨by rfl, ?_⟩) ?_ ?_
                                          rotate_left
                                          · intro w'
                                            go_simp
                                            with_reducible rfl
                                          rotate_left
                                          · simp only [Act.put, List.setIfInBounds_toArray, List.set_cons_zero, List.set_cons_succ, i64_w, i32_w]
                                            rfl
                                          refine pure_ (i := 12) (N := some 117) (v := ?_) (a' := ?_) #[true, true, true, true, true, true, true, true, true, true, true, true, true, false, false, false, false, false, false, false, false, false, false, false] rfl rfl (any_of HT_.out (by kernel_rfl)) (fun _ _ _ h => h) (Or.inl ⟨by rfl, ?_⟩) ?_ ?_
                                          rotate_left
                                          · intro w'
                                            go_simp
                                            with_reducible rfl
                                          rotate_left
                                          · simp only [Act.put, List.setIfInBounds_toArray, List.set_cons_zero, List.set_cons_succ, i64_w, i32_w]
                                            rfl
                                          refine pure_ (i := 13) (N := some 118) (v := ?_) (a' := ?_) #[true, true, true, true, true, true, true, true, true, true, true, true, true, true, false, false, false, false, false, false, false, false, false, false] rfl rfl (any_of HT_.out (by kernel_rfl)) (fun _ _ _ h => h) (Or.inl ⟨by rfl, ?_⟩) ?_ ?_
                                          rotate_left
                                          · intro w'
                                            go_simp
                                            with_reducible rfl
                                          rotate_left
                                          · simp only [Act.put, List.setIfInBounds_toArray, List.set_cons_zero, List.set_cons_succ, i64_w, i32_w]
                                            rfl
                                          refine pure_ (i := 14) (N := some 119) (v := ?_) (a' := ?_) #[true, true, true, true, true, true, true, true, true, true, true, true, true, true, true, false, false, false, false, false, false, false, false, false] rfl rfl (any_of HT_.out (by kernel_rfl)) (fun _ _ _ h => h) (Or.inl ⟨by rfl, ?_⟩) ?_ ?_
                                          rotate_left
                                          · intro w'
                                            go_simp
                                            with_reducible rfl
                                          rotate_left
                                          · simp only [Act.put, List.setIfInBounds_toArray, List.set_cons_zero, List.set_cons_succ, i64_w, i32_w]
                                            rfl
                                          refine pure_ (i := 16) (N := some 121) (v := ?_) (a' := ?_) #[true, true, true, true, true, true, true, true, true, true, true, true, true, true, true, false, true, false, false, false, false, false, false, false] rfl rfl (any_of HT_.out (by kernel_rfl)) (fun _ _ _ h => h) (Or.inl ⟨by rfl, ?_⟩) ?_ ?_
                                          rotate_left
                                          · intro w'
                                            go_simp
                                            with_reducible rfl
                                          rotate_left
                                          · simp only [Act.put, List.setIfInBounds_toArray, List.set_cons_zero, List.set_cons_succ, i64_w, i32_w]
                                            rfl
                                          refine pure_ (i := 18) (N := some 123) (v := ?_) (a' := ?_) #[true, true, true, true, true, true, true, true, true, true, true, true, true, true, true, false, true, false, true, false, false, false, false, false] rfl rfl (any_of HT_.out (by kernel_rfl)) (fun _ _ _ h => h) (Or.inl ⟨by rfl, ?_⟩) ?_ ?_
                                          rotate_left
                                          · intro w'
                                            go_simp
                                            with_reducible rfl
                                          rotate_left
                                          · simp only [Act.put, List.setIfInBounds_toArray, List.set_cons_zero, List.set_cons_succ, i64_w, i32_w]
                                            rfl
                                          refine pure_ (i := 19) (N := some 124) (v := ?_) (a' := ?_) #[true, true, true, true, true, true, true, true, true, true, true, true, true, true, true, false, true, false, true, true, false, false, false, false] rfl rfl (any_of HT_.out (by kernel_rfl)) (fun _ _ _ h => h) (Or.inl ⟨by rfl, ?_⟩) ?_ ?_
                                          rotate_left
                                          · intro w'
                                            go_simp
                                            with_reducible rfl
                                          rotate_left
                                          · simp only [Act.put, List.setIfInBounds_toArray, List.set_cons_zero, List.set_cons_succ, i64_w, i32_w]
                                            rfl
                                          refine take_ (i := 15) (N := some 120) (v := ?_) (a' := ?_) #[true, true, true, true, true, true, true, true, true, true, true, true, true, true, true, true, true, false, true, true, false, false, false, false] rfl rfl (take_ofW HT_.out HW_.out (by kernel_rfl)) (fun _ _ _ h => h) (Or.inl ⟨by rfl, ?_⟩) hHeld ?_ ?_
                                          rotate_left
                                          · rintro w' ⟨s0, s1, s2, s3, s4⟩
                                            go_simp
                                            with_reducible rfl
                                          rotate_left
                                          · simp only [Act.put, List.setIfInBounds_toArray, List.set_cons_zero, List.set_cons_succ, i64_w, i32_w]
                                            rfl
                                          refine take_ (i := 20) (N := some 125) (v := ?_) (a' := ?_) #[true, true, true, true, true, true, true, true, true, true, true, true, true, true, true, true, true, false, true, true, true, false, false, false] rfl rfl (take_ofW HT_.out HW_.out (by kernel_rfl)) (fun _ _ _ h => h) (Or.inl ⟨by rfl, ?_⟩) hHeld ?_ ?_
                                          rotate_left
                                          · rintro w' ⟨s0, s1, s2, s3, s4⟩
                                            go_simp
                                            with_reducible rfl
                                          rotate_left
                                          · simp only [Act.put, List.setIfInBounds_toArray, List.set_cons_zero, List.set_cons_succ, i64_w, i32_w]
                                            rfl
                                          refine one_ (i := 17) (N := some 122) #[true, true, true, true, true, true, true, true, true, true, true, true, true, true, true, true, true, true, true, true, true, false, false, false] rfl rfl (one_of HT_.out (by kernel_rfl)) (by decide) (fun K hK => ?_)
                                          refine goes_ Tryd.func15 (by kernel_rfl) rfl #[.slice A161_0 (rd_L2 t134 (ji64)).length c161_0, .slice Ao82 x9_4.length co82] (by rfl) rfl rfl (by (try simp only [List.map_toArray, List.map_cons, List.map_nil]); first | done | (simp only [hji64]; rfl) | rfl | (simp only [List.length_drop, List.length_take]; rfl)) ?_
                                          with_reducible refine (ashlarlaw07_holds.calls k4 _ _ (rd_L2 t134 (ji64)) _ _ x9_4 t162 _ ?side1 ?side2 ?side3 ?side4 A70.out).mono ?_
                                          (case side1 => repeat (first | exact (by repeat (first | (with_reducible exact HR161_0.out) | (with_reducible refine Kd.C_alloc ?_ _) | (with_reducible refine Kd.C_drewN ?_ _) | (with_reducible refine Kd.C_drew ?_) | exact HR161_0.out)) | (with_reducible refine Kd.C_alloc ?_ _) | (with_reducible refine Kd.C_drewN ?_ _) | (with_reducible refine Kd.C_drew ?_)))
                                          (case side2 => exact HC161_0.out)
                                          (case side3 => repeat (first | exact (Kd.R_reads' HO_9.out).2.2 | (with_reducible refine Kd.C_alloc ?_ _) | (with_reducible refine Kd.C_drewN ?_ _) | (with_reducible refine Kd.C_drew ?_)))
                                          (case side4 => exact (Kd.R_reads' HO_9.out).2.1)
                                          rintro e w' ⟨rfl, ⟨nd, rfl⟩⟩
                                          refine ⟨_, rfl, ?_⟩
                                          refine hK.out _ _ ⟨(blk_cell BK132.out 0).trans rfl, (blk_cell BK132.out 1).trans rfl, (blk_cell BK132.out 2).trans rfl, (blk_cell BK132.out 3).trans rfl, hHeld.2.2.2.2⟩ (fun hHeld => ?_)
                                          clear hK K
                                          refine norm_ (a' := ?_) ?_ ?_
                                          rotate_left
                                          · show Act.put _ (some 122) _ = _
                                            simp only [Act.put, List.setIfInBounds_toArray, List.set_cons_zero, List.set_cons_succ, i64_w, i32_w]
                                            rfl
                                          refine one_ (i := 21) (N := some 126) #[true, true, true, true, true, true, true, true, true, true, true, true, true, true, true, true, true, true, true, true, true, true, false, false] rfl rfl (one_of HT_.out (by kernel_rfl)) (by decide) (fun K hK => ?_)
                                          refine goes_ Tryd.func16 (by kernel_rfl) rfl #[.slice Ao25 t137.length co25, .int .u64 x8_2, .agg #[.int .i64 a0_0, .string a0_1, .int .i64 a0_2, .slice A0_3 l0_3.length c0_3]] (by rfl) rfl rfl (by (try simp only [List.map_toArray, List.map_cons, List.map_nil]); first | done | rfl | (simp only [List.length_drop, List.length_take]; rfl)) ?_
                                          with_reducible refine (ashlarlaw07_truth.calls k4 _ _ t137 x8_2 a0_0 a0_1 a0_2 _ _ l0_3 t163 _ ?side1 ?side2 ?side3 ?side4 A71.out).mono ?_
                                          (case side1 => repeat (first | exact (Kd.V_reads' HO_5.out).2.2 | (with_reducible refine Kd.C_alloc ?_ _) | (with_reducible refine Kd.C_drewN ?_ _) | (with_reducible refine Kd.C_drew ?_)))
                                          (case side2 => exact (Kd.V_reads' HO_5.out).2.1)
                                          (case side3 => repeat (first | exact (Kd.C_below HR0_3.out (by repeat (first | (with_reducible first | exact HB.out | apply below_alloc | apply pw_below_drewN | apply below_drew1 | refine below_set ?_ GE132.out) | exact HB.out))) | (with_reducible refine Kd.C_alloc ?_ _) | (with_reducible refine Kd.C_drewN ?_ _) | (with_reducible refine Kd.C_drew ?_)))
                                          (case side4 => exact HC0_3.out)
                                          rintro e w84 ⟨rfl, hb⟩
                                          have HS4_ := (hb.cell (World.block_lt_of_cell? _ _ (hHeld.2.2.2.2))).trans (hHeld.2.2.2.2)
                                          refine ⟨_, rfl, ?_⟩
                                          have n0_ := Aside0.mk (Kd.N_below (by (with_reducible repeat (first | apply Kd.N_alloc | apply Kd.N_drewN | apply Kd.N_drew)); exact HO_4.out) hb)
                                          have n1_ := Aside0.mk (Kd.V_below (by (with_reducible repeat (first | apply Kd.V_alloc | apply Kd.V_drewN | apply Kd.V_drew)); exact HO_5.out) hb)
                                          have n2_ := Aside0.mk (Kd.R_below (by (with_reducible repeat (first | apply Kd.R_alloc | apply Kd.R_drewN | apply Kd.R_drew)); exact HO_9.out) hb)
                                          have n3_ := Aside0.mk (Kd.V_below (by (with_reducible repeat (first | apply Kd.V_alloc | apply Kd.V_drewN | apply Kd.V_drew)); exact HO159.out) hb)
                                          have n4_ := Aside0.mk (Kd.V_below (by (with_reducible repeat (first | apply Kd.V_alloc | apply Kd.V_drewN | apply Kd.V_drew)); exact HL161_0.out) hb)
                                          have n5_ := Aside0.mk (blk_below (g := gb132) (o := .cells #[.int .i64 a0_0, .string a0_1, .int .i64 a0_2, .slice A0_3 l0_3.length c0_3] 24 (0, 0)) (by (with_reducible repeat (first | refine blk_drewN ?_ _ | refine blk_drew ?_ | refine blk_alloc ?_ _)); exact BK132.out) hb)
                                          have n6_ := Aside0.mk (Kd.C_below (by repeat (first | (with_reducible exact HR161_0.out) | (with_reducible refine Kd.C_alloc ?_ _) | (with_reducible refine Kd.C_drewN ?_ _) | (with_reducible refine Kd.C_drew ?_) | exact HR161_0.out)) hb)
                                          have n7_ := Aside0.mk (below_step (by repeat (first | (with_reducible first | exact HB.out | apply below_alloc | apply pw_below_drewN | apply below_drew1 | refine below_set ?_ GE132.out) | exact HB.out)) hb)
                                          clear HO_4
                                          clear HO_5
                                          clear HO_9
                                          clear HO159
                                          clear HL161_0
                                          clear BK132
                                          clear HR161_0
                                          clear HB
                                          have HO_4 := n0_
                                          have HO_5 := n1_
                                          have HO_9 := n2_
                                          have HO159 := n3_
                                          have HL161_0 := n4_
                                          have BK132 := n5_
                                          have HR161_0 := n6_
                                          have HB := n7_
                                          clear n0_ n1_ n2_ n3_ n4_ n5_ n6_ n7_
                                          (try clear hb)
                                          (try clear hb2)
                                          (try clear hk)
                                          (try clear hi)
                                          refine hK.out _ _ ⟨(blk_cell BK132.out 0).trans rfl, (blk_cell BK132.out 1).trans rfl, (blk_cell BK132.out 2).trans rfl, (blk_cell BK132.out 3).trans rfl, HS4_⟩ (fun hHeld => ?_)
                                          clear hK K
                                          refine norm_ (a' := ?_) ?_ ?_
                                          rotate_left
                                          · show Act.put _ (some 126) _ = _
                                            simp only [Act.put, List.setIfInBounds_toArray, List.set_cons_zero, List.set_cons_succ, i64_w, i32_w]
                                            rfl
                                          refine pure_ (i := 22) (N := some 127) (v := ?_) (a' := ?_) #[true, true, true, true, true, true, true, true, true, true, true, true, true, true, true, true, true, true, true, true, true, true, true, false] rfl rfl (any_of HT_.out (by kernel_rfl)) (fun _ _ _ h => h) (Or.inl ⟨by rfl, ?_⟩) ?_ ?_
                                          rotate_left
                                          · intro w'
                                            go_simp
                                            with_reducible rfl
                                          rotate_left
                                          · simp only [Act.put, List.setIfInBounds_toArray, List.set_cons_zero, List.set_cons_succ, i64_w, i32_w]
                                            rfl
                                          refine pure_ (i := 23) (N := some 128) (v := ?_) (a' := ?_) #[true, true, true, true, true, true, true, true, true, true, true, true, true, true, true, true, true, true, true, true, true, true, true, true] rfl rfl (any_of HT_.out (by kernel_rfl)) (fun _ _ _ h => h) (Or.inl ⟨by rfl, ?_⟩) ?_ ?_
                                          rotate_left
                                          · intro w'
                                            go_simp
                                            with_reducible rfl
                                          rotate_left
                                          · simp only [Act.put, List.setIfInBounds_toArray, List.set_cons_zero, List.set_cons_succ, i64_w, i32_w]
                                            rfl
                                          refine done_ (done_of HT_.out (by kernel_rfl)) ?_
                                          try go_wp2
                                          go_roundg k4
                                          case measure => have := HJ3.out; have := HK2.out; have := HK3.out; have := HK4.out; omega
                                          case rel => exact ⟨(IntKind.u64.wrap (x8_2 + 1)), (by first | rfl | (simp; done) | (simp [*]; done)), H', ⟨by have := HJ3.out; have := HK2.out; have := HK3.out; have := HK4.out; omega⟩, ⟨by (with_reducible repeat (first | apply Kd.N_alloc | apply Kd.N_drewN | apply Kd.N_drew)); exact Kd.N_mono HO_4.out (fun _ hk => hk.2)⟩, ⟨by (with_reducible repeat (first | apply Kd.V_alloc | apply Kd.V_drewN | apply Kd.V_drew)); exact Kd.V_mono HO_5.out (fun _ hk => ⟨hk.1, hk.2.2⟩)⟩, ⟨by (with_reducible repeat (first | refine blk_drewN ?_ _ | refine blk_drew ?_ | refine blk_alloc ?_ _)); exact BK132.out⟩, ⟨by repeat (first | (with_reducible first | exact HB.out | apply below_alloc | apply pw_below_drewN | apply below_drew1 | refine below_set ?_ GE132.out) | exact HB.out)⟩⟩
                                      · rw [if_neg c69] at H
                                        exact absurd H (by simp)
                                    · replace c68 := Bool.eq_false_iff.mpr c68
                                      subst c68
                                      have H1 : (some false) = some r := by rw [if_neg (show ¬ (false = true) by decide)] at H; exact H
                                      clear H
                                      have H := H1
                                      clear H1
                                      exact absurd (Option.some.inj H) (by rw [hr]; decide)
                                  · rw [if_neg c66] at H
                                    exact absurd H (by simp)
                                · rw [if_neg c65] at H
                                  exact absurd H (by simp)
                  · rw [if_neg c24] at H
                    exact absurd H (by simp)
                · rw [if_neg c23] at H
                  exact absurd H (by simp)
              · rw [if_neg c21] at H
                have c21b0 : decide (x8_2 < (ji20)) = false := decide_eq_false c21
                clear c21
                obtain rfl := Option.some.inj H
                obtain ⟨Ao90, co90, eo90⟩ := Kd.V_slice HO_5.out
                subst eo90
                go_wp2
                go_ret
                exact ⟨by first | rfl | (simp [errW_none, errW_some] <;> rfl) | (simp only [← hji18, ← hji20]; first | rfl | (simp [errW_none, errW_some] <;> rfl)) | (simp [*, errW_none, errW_some] <;> rfl), by repeat (first | (with_reducible first | exact HB.out | apply below_alloc | apply pw_below_drewN | apply below_drew1 | refine below_set ?_ GE132.out) | exact HB.out)⟩
            · rw [if_neg c19] at H
              exact absurd H (by simp)

end Go.Proofs.YthckboogibhjaaaDoor.PCnfMeans
