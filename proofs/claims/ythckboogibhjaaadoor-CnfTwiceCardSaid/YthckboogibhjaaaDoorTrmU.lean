/- term.Sort: a term's sort. -/
import Derived.Test.YthckboogibhjaaaDoorTrmR
import Derived.Test.YthckboogibhjaaaDoorTrmT
namespace Go.Proofs.YthckboogibhjaaaDoor.Trm
set_option linter.unusedVariables false
set_option linter.unusedSimpArgs false
open Go.RowKit Go.Proofs.YthckboogibhjaaaDoorW.PrintWords Go.Proofs.YthckboogibhjaaaDoorW.PrintMore

/-- Too large, or too deep, as Go measures it. -/
def bigT (t : S24) : Bool := decide (2000 < (ofT t 1 (0, 0)).1) || decide (100 < (ofT t 1 (0, 0)).2)

/-- term.Sort. -/
def sortT (t : S24) : Int × Int := if bigT t = true then (0, 7) else if rightT t 0 = true then ((shp t.f0.toNat).sort, 0) else (0, 3)

theorem right_op {t : S24} {want : Int} (h : rightT t want = true) : 1 ≤ t.f0 ∧ t.f0 ≤ 28 := by
  rw [rightT_mk] at h
  by_cases hop : t.f0 < 1 ∨ 28 < t.f0
  · rw [if_pos hop] at h; cases h
  · omega

set_option maxHeartbeats 8000000 in
set_option maxRecDepth 100000 in
theorem Sort_any (t : S24) (A : Option Addr) (c : Nat) (w : World) (hC : Kd.C k24 w A t.f3.length t.f3) (hc : t.f3.length ≤ c) :
    Calls Tryd.prog 22 #[.agg #[.int .i64 t.f0, .string t.f1, .int .i64 t.f2, .slice A t.f3.length c]] w fun e w' => e = .returned (.tuple #[.int .i64 (sortT t).1, .int .i64 (sortT t).2]) ∧ Below w.heap.size w w' := by
  have HC := Lib.hid hC
  clear hC
  have hof := ofT_le t 1 (0, 0) (by decide) (by decide) (by decide)
  have hM : ∀ (W : World), Below w.heap.size w W → w.heap.size + 1 < W.heap.size → Meas W (w.heap.size + 1) (0, 0) → Calls Tryd.prog 37 #[.pointer (some ⟨w.heap.size + 1, 0, none⟩), .agg #[.int .i64 t.f0, .string t.f1, .int .i64 t.f2, .slice A t.f3.length c], .int .i64 1] W fun e w' => e = .returned (.tuple #[]) ∧ Mv (w.heap.size + 1) W w' ∧ Meas w' (w.heap.size + 1) (ofT t 1 (0, 0)) := by
    intro W b1 b2 b3
    exact of_any (tsize t) t (Nat.le_refl _) A c 1 (0, 0) (w.heap.size + 1) w W HC.out hc b1 (by omega) b2 b3 (by decide) (by decide) (by decide)
  have HM := Lib.hid hM
  clear hM
  go_enter Tryd.func22, Tryd.ntmps22
  go_wp2_with (first | (go_at_call 37; refine (HM.out _ ?b1 ?b2 ?b3).mono ?_; (case b1 => exact (by repeat (first | exact Below.refl _ _ | with_reducible assumption | refine Below.alloc ?_ (by first | exact Nat.le_refl _ | (simp; done) | (simp; omega) | omega) _ | refine Below.setCell ?_ (by first | exact Nat.le_refl _ | (simp; done) | (simp; omega) | omega) _ | refine Below.drew ?_ | refine bdrewN ?_ _))); (case b2 => simp); (case b3 => exact ⟨by simp [go_sem], by simp [go_sem], by simp [go_sem], by simp [go_sem]⟩); rintro e w1 ⟨rfl, hv, hm⟩; have HV := Lib.hid hv; have HMM := Lib.hid hm; have q1 := hm.s; have q2 := hm.d; have k0 : w1.heap[w.heap.size]? = some (.cells #[.int .i64 t.f0, .string t.f1, .int .i64 t.f2, .slice A t.f3.length c] 24 (0, 0)) := (hv.block _ (by simp; omega) (by omega)).trans (blk_alloc (blk_new _ _) _); have KK0 := Lib.hid k0; clear hv hm k0) | (go_at_call 38; refine (shapes_any _).mono ?_; rintro e w2 ⟨cells, rfl, hsz, hone, hb2, htab⟩; have HS := Lib.hid hsz; have HON := Lib.hid hone; have HB2 := Lib.hid hb2; have HTB := Lib.hid htab; clear hsz hone hb2 htab) | ((with_reducible refine gate_dst (N := 5) rfl ?_); refine box_event ?hg (N := 5) ?hd (cs := Tryd.zeroCells62) (t := 62) ?hr ?_; (case hd => rfl); (case hg => rfl); (case hr => first | (go_simp; done) | (go_simp; rfl)); intro gl hgl w3 hl hb3; have HGL := Lib.hid hgl; clear hgl; have HL := Lib.hid hl; have HB3 := Lib.hid hb3; clear hl hb3) | ((with_reducible refine gate_store (t := 62) (p := 5) rfl ?_); refine Hid.out ?_))
  · rename_i hs
    refine bodyPost_ret (v := .tuple #[.int .i64 0, .int .i64 7]) (by simp [results, Tryd.results22, go_sem]) rfl ⟨?_, HV.out.below (by repeat (first | exact Below.refl _ _ | with_reducible assumption | refine Below.alloc ?_ (by first | exact Nat.le_refl _ | (simp; done) | (simp; omega) | omega) _ | refine Below.setCell ?_ (by first | exact Nat.le_refl _ | (simp; done) | (simp; omega) | omega) _ | refine Below.drew ?_ | refine bdrewN ?_ _)) (by simp; omega) (by omega)⟩
    have : bigT t = true := by unfold bigT; simp; omega
    unfold sortT; rw [if_pos this]
  · refine Lib.hid ?_
    have hnb : bigT t = false := by unfold bigT; simp; omega
    have hsort : sortT t = if rightT t 0 = true then ((shp t.f0.toNat).sort, 0) else (0, 3) := by unfold sortT; rw [hnb, if_neg (by decide)]
    have HSORT := Lib.hid hsort
    clear hsort hnb
    refine put_event ?pg (t := 62) (p := .tmp 5) (x := .tmp 23) ?po ?pn (g := gl) (cur := Tryd.zeroCells62) (seg := cells.toList) (u := .agg cells) ?pa ?px ?puu HL.out ?pt ?pf ?p1 ?_
    case pg => rfl
    case po => rfl
    case pn => rfl
    case pa => rfl
    case px => rfl
    case puu => rfl
    case pt => rw [Array.length_toList, HS.out]; kernel_rfl
    case pf => rw [Array.length_toList, HS.out]; kernel_rfl
    case p1 => exact HON.out
    intro w4 h4 hmv
    have h4' : w4.heap[gl]? = some (.cells cells 62 (0, 0)) := by rw [h4, Array.toArray_toList]
    have hb1 : Below w.heap.size w w1 := HV.out.below (by repeat (first | exact Below.refl _ _ | with_reducible assumption | refine Below.alloc ?_ (by first | exact Nat.le_refl _ | (simp; done) | (simp; omega) | omega) _ | refine Below.setCell ?_ (by first | exact Nat.le_refl _ | (simp; done) | (simp; omega) | omega) _ | refine Below.drew ?_ | refine bdrewN ?_ _)) (by simp; omega) (by omega)
    have hb24 : Below w2.heap.size w2 w4 := hmv.below HB3.out HB3.out.size (Nat.le_of_eq HGL.out.symm)
    have hb4 : Below w.heap.size w w4 := (hb1.trans (HB2.out.mono hb1.size)).trans (hb24.mono (Nat.le_trans hb1.size HB2.out.size))
    have k4 := blk_below (blk_below KK0.out HB2.out) hb24
    have tab : TabAt w4 gl := HTB.out w4 gl hb24 h4'
    have hR := right_any (tsize t) t (Nat.le_refl _) A c gl 0 w4 w4 (Kd.C_below HC.out hb4) hc (Below.refl _ _) tab
    have TB := Lib.hid tab
    have K4 := Lib.hid k4
    have HB4 := Lib.hid hb4
    clear h4 h4' hmv hb1 hb24 tab k4 hb4 q1 q2 HV HMM KK0 HS HON HB2 HTB HL HGL HB3
    cases hr : rightT t 0 with
    | false =>
      have c0 := (blk_cell K4.out 0).trans rfl
      have c1 := (blk_cell K4.out 1).trans rfl
      have c2 := (blk_cell K4.out 2).trans rfl
      have c3 := (blk_cell K4.out 3).trans rfl
      rw [hr] at hR
      have HR := Lib.hid hR
      clear hR
      go_wp2_with (go_at_call 39; refine HR.out.mono ?_; rintro e w5 ⟨rfl, hb5⟩)
      refine bodyPost_ret (v := .tuple #[.int .i64 0, .int .i64 3]) (by simp [results, Tryd.results22, go_sem]) rfl ⟨?_, HB4.out.trans (hb5.mono HB4.out.size)⟩
      rw [HSORT.out, hr]; rfl
    | true =>
      obtain ⟨o1, o2⟩ := right_op hr
      obtain ⟨i, hi⟩ : ∃ i : Nat, t.f0 = i := Int.eq_ofNat_of_zero_le (by omega)
      have hi29 : i < 29 := by omega
      have h29 : ((i : Int) < 29) = True := eq_true (by omega)
      obtain ⟨As, y0, -, -, -, -, -⟩ := TB.out i hi29
      have k4 := K4.out
      rw [hi] at hR k4
      have K5 := Lib.hid k4
      have c0 := (blk_cell k4 0).trans rfl
      have c1 := (blk_cell k4 1).trans rfl
      have c2 := (blk_cell k4 2).trans rfl
      have c3 := (blk_cell k4 3).trans rfl
      rw [hr] at hR
      have HR := Lib.hid hR
      have hso := HSORT.out
      rw [hr, if_pos rfl, hi, Int.toNat_natCast] at hso
      have HSO := Lib.hid hso
      clear hR hso k4 HSORT
      generalize (shp i).sort = so at *
      have Y0 := Lib.hid y0
      go_wp2_with (go_at_call 39; refine HR.out.mono ?_; rintro e w5 ⟨rfl, hb5⟩; have y0' := kcell hb5 Y0.out; have c0' := (blk_cell (blk_below K5.out hb5) 0).trans rfl)
      refine bodyPost_ret (v := .tuple #[.int .i64 so, .int .i64 0]) (by simp [results, Tryd.results22, go_sem]) rfl ⟨?_, HB4.out.trans (hb5.mono HB4.out.size)⟩
      rw [HSO.out]
  · rename_i hs
    refine bodyPost_ret (v := .tuple #[.int .i64 0, .int .i64 7]) (by simp [results, Tryd.results22, go_sem]) rfl ⟨?_, HV.out.below (by repeat (first | exact Below.refl _ _ | with_reducible assumption | refine Below.alloc ?_ (by first | exact Nat.le_refl _ | (simp; done) | (simp; omega) | omega) _ | refine Below.setCell ?_ (by first | exact Nat.le_refl _ | (simp; done) | (simp; omega) | omega) _ | refine Below.drew ?_ | refine bdrewN ?_ _)) (by simp; omega) (by omega)⟩
    have : bigT t = true := by unfold bigT; simp; omega
    unfold sortT; rw [if_pos this]
end Go.Proofs.YthckboogibhjaaaDoor.Trm
