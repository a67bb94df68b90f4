import Derived.Test.YtmcfcmijopbinaaTl
import Derived.Test.YtmcfcmijopbinaaWhC
section
/- linear's wrong. -/
namespace Go.Proofs
theorem Zp1r {p q : Prop} (hq : q) (h : p = q := by first | (simp only [Act.put, List.setIfInBounds_toArray, List.set_cons_zero, List.set_cons_succ]; done) | (simp only [Act.put, List.setIfInBounds_toArray, List.set_cons_zero, List.set_cons_succ]; rfl) | rfl) : p := Eq.mpr h hq
theorem Z1r0 {p : Prop} (h : p := by kernel_rfl) : p := h
end Go.Proofs
namespace Go.Proofs.Ytmcfcmijopbinaa.Ln
open Go.RowKit Go.Proofs.Ytmcfcmijopbinaa.Num Go.Proofs.Ytmcfcmijopbinaa.Given Go.Proofs.Ytmcfcmijopbinaa.Lin Go.Proofs.YtmcfcmijopbinaaW.PrintWords
set_option linter.unusedVariables false
set_option linter.unusedSimpArgs false
theorem cmp_c {x y : Rat} (hx : Fit x) (hy : Fit y) (c : Int) (h : cmpQ x y = c) (w : World) :
  Calls Try.prog 47 #[rv x, rv y] w fun e w' => e = .returned (.int .i64 c) ∧ Below w.heap.size w w' := by subst h; exact cmp_is hx hy w
theorem cmpQ_gt {x y : Rat} (h : y < x) : cmpQ x y = 1 := by
 unfold cmpQ
 rw [if_neg (by grind), if_neg (by grind)]
theorem cmpQ_le {x y : Rat} (h : ¬ y < x) : (0 < cmpQ x y) = False := by
 apply eq_false
 unfold cmpQ
 split
 ·omega
 ·rw [if_pos (by grind)]; omega
theorem cmpQ_lt {x y : Rat} (h : x < y) : cmpQ x y = -1 := by
 unfold cmpQ
 rw [if_pos h]
theorem cmpQ_ge {x y : Rat} (h : ¬ x < y) : (cmpQ x y < 0) = False := by
 apply eq_false
 unfold cmpQ
 rw [if_neg h]
 split <;> omega
def atI : Option Nat → Int
 | none => -1
 | some b => b
set_option maxHeartbeats 8000000 in
set_option maxRecDepth 100000 in
theorem wrong_any (w : World) (base tb vars : Nat) (t : Tab) (vb vr vv vl : Value) (rs : List Value) (hT : TabAt w base tb vars t vb vr vv vl rs) (hW : WfT vars t) :
  Calls Try.prog 28 #[.pointer (some ⟨tb, 0, none⟩)] w fun e w' => e = .returned (.int .i64 (atI (wrong vars t))) ∧ Below w.heap.size w w' := by
 obtain ⟨r, hr⟩ : ∃ r, wrong vars t = r := ⟨_, rfl⟩
 rw [hr]
 have HBL := Lib.hid hW.bl
 have HVL := Lib.hid hW.vl
 have HM := Lib.hid hW.max
 have HT := Lib.hid hT
 have HW := Lib.hid hW
 have HR := Lib.hid hr
 obtain ⟨nb, cb, evb⟩ : ∃ nb cb, vb = .slice nb t.basic.length cb := by
  obtain ⟨_, hv⟩ := hT.basic
  rcases hv with ⟨h1, h2⟩ | ⟨g, cap, cur, h, _⟩
  ·exact ⟨none, 0, by rw [h1, h2]⟩
  ·exact ⟨_, _, h⟩
 subst evb
 have b0 : w.cell? ⟨tb, 0, none⟩ = some (.int .i64 vars) := blk_cell hT.box 0
 have b1 : w.cell? ⟨tb, 1, none⟩ = some (.slice nb t.basic.length cb) := blk_cell hT.box 1
 clear hT hW hr
 go_enter Try.func28, Try.ntmps28
 go_wp2
 go_loopw [3, 11] (fun v3 v11 wr => ∃ (j : Nat) (o : Option Nat), j ≤ t.basic.length ∧ v3 = .int .i64 (atI o) ∧ v11 = .int .i64 j ∧ (∀ b, o = some b → b < j) ∧ wrongF vars t (t.basic.length - j) j o = r ∧ Below w.heap.size w wr) (fun _ v11 _ => t.basic.length - (intOf v11).toNat)
 case atStart => exact ⟨0, none, Nat.zero_le _, rfl, rfl, (fun b hb => by cases hb), HR.out, Below.refl _ _⟩
 case round =>
  obtain ⟨j, o, hj, rfl, rfl, ho, hF, hbr⟩ := hrel
  by_cases hjl : j < t.basic.length
  ·obtain ⟨gB, cB, eB, _, _, z0, _, _⟩ := rowN_rd HT.out.basic hjl
   injection eB with e1 _ e3
   subst e1
   subst e3
   have hv := HW.out.bas j hjl
   obtain ⟨gV, cV, eV, _, _, x0, x1, _⟩ := rowQ_rd HT.out.value hv
   have b3 : w.cell? ⟨tb, 3, none⟩ = some (.slice (some ⟨gV, 0, none⟩) t.value.length cV) := by rw [← eV]; exact blk_cell HT.out.box 3
   rw [show t.basic.length - j = (t.basic.length - (j + 1)) + 1 by omega, wrongF] at hF
   have fx := HW.out.fv (rdN t.basic j)
   have fy := HW.out.fl (rdN t.basic j - vars)
   have EW := Lib.hid (wrapj (show j + 1 < 9223372036854775808 by have := HBL.out; have := HVL.out; have := HM.out; omega))
   have HBR := Lib.hid hbr
   have HO := Lib.hid ho
   have z0' := kcell (hbr) z0
   have c0 := kcell hbr b0
   have c1 := kcell hbr b1
   have c3 := kcell hbr b3
   have x0' := kcell hbr x0
   have x1' := kcell hbr x1
   generalize rdN t.basic j = v at *
   generalize rdQ t.value v = x at *
   clear hbr ho x0 x1 eV b3 z0
   by_cases hA : vars ≤ v
   ·have h2 : v - vars < t.limits.length := by have := HVL.out; omega
    obtain ⟨gL, cL, eL, _, _, y0, y1, _⟩ := rowQ_rd HT.out.limits h2
    have b4 : w.cell? ⟨tb, 4, none⟩ = some (.slice (some ⟨gL, 0, none⟩) t.limits.length cL) := by rw [← eL]; exact blk_cell HT.out.box 4
    have ew := wrapsub hA (show v < 9223372036854775808 by have := HM.out; omega)
    have ew2 : IntKind.i64.wrap ((v : Int) - (vars : Int)) = ((v - vars : Nat) : Int) := by rw [IntKind.wrap_i64]; unfold wrap64 at ew; exact ew
    have c4 := kcell HBR.out b4
    have y0' := kcell HBR.out y0
    have y1' := kcell HBR.out y1
    generalize rdQ t.limits (v - vars) = y at *
    have eA : ((vars : Int) ≤ (v : Int)) = True := eq_true (by omega)
    clear b4 y0 y1 eL
    by_cases hB : y < x
    ·have hc := cmp_c fx fy 1 (cmpQ_gt hB)
     have HCmp := Lib.hid hc
     clear hc
     cases o with
     | none =>
      rw [if_pos ⟨hA, hB, fun b hb => by cases hb⟩] at hF
      have HF := Lib.hid hF
      have HC := Lib.hid (show Cells [(⟨tb, 0, none⟩, .int .i64 vars), (⟨tb, 3, none⟩, .slice (some ⟨gV, 0, none⟩) t.value.length cV), (⟨tb, 4, none⟩, .slice (some ⟨gL, 0, none⟩) t.limits.length cL), (⟨gV, v * 2, none⟩, .int .i64 x.num), (⟨gV, v * 2 + 1, none⟩, .int .i64 x.den), (⟨gL, (v - vars) * 2, none⟩, .int .i64 y.num), (⟨gL, (v - vars) * 2 + 1, none⟩, .int .i64 y.den)] wr from ⟨c0, c3, c4, x0', x1', y0', y1', trivial⟩)
      clear hF c0 c3 c4 x0' x1' y0' y1' hB fx fy
      go_wp2_with fail
      refine wp_region_L 43 (Hd _ w w.heap.size) Z1r0 (⟨Nat.le_refl _, HC.out.keep (Below.refl _ _).drew, HBR.out.drew⟩) (fun hHeld => ?_)
      refine tl0.go ?_
      refine tl1.go ?_
      refine tl2.go ?_
      refine tl3.go ?_
      refine tl4.go ?_
      refine tl5.go ?_
      refine tl6.go ?_
      first | refine tl7.go ?_ | refine ul7.go ?_
      first | refine tl8.go ?_ | refine ul8.go ?_
      first | refine tl9.go ?_ | refine ul9.go ?_
      first | refine tl10.go ?_ | refine ul10.go ?_
      first | refine tl11.go ?_ | refine ul11.go ?_
      first | refine tl12.go ?_ | refine ul12.go ?_
      first | refine tl13.go ?_ | refine ul13.go ?_
      first | refine tl14.go ?_ | refine ul14.go ?_
      first | refine tl15.go ?_ | refine ul15.go ?_
      first | refine tl16.go ?_ | refine ul16.go ?_
      first | refine tl17.go ?_ | refine ul17.go ?_
      first | refine tl18.go ?_ | refine ul18.go ?_
      first | refine tl19.go ?_ | refine ul19.go ?_
      first | refine tl20.go ?_ | refine ul20.go ?_
      first | refine tl21.go ?_ | refine ul21.go ?_
      first | refine tl22.go ?_ | refine ul22.go ?_
      first | refine tl23.go ?_ | refine ul23.go ?_
      first | refine tl24.go ?_ | refine ul24.go ?_
      first | refine tl25.go ?_ | refine ul25.go ?_
      refine al26.ret (HCmp.out _) (fun w2 hb2 hHeld => ?_); (try have HT := tab_keep HT hb2)
      first | refine tl27.go ?_ | refine ul27.go ?_
      refine tl28.go ?_
      refine tl29.go ?_
      first | refine tl30.go ?_ | refine ul30.go ?_
      first | refine tl31.go ?_ | refine ul31.go ?_
      first | refine tl32.go ?_ | refine ul32.go ?_
      first | refine tl33.go ?_ | refine ul33.go ?_
      first | refine tl34.go ?_ | refine ul34.go ?_
      first | refine tl35.go ?_ | refine ul35.go ?_
      first | refine tl36.go ?_ | refine ul36.go ?_
      first | refine tl37.go ?_ | refine ul37.go ?_
      first | refine tl38.go ?_ | refine ul38.go ?_
      first | refine tl39.go ?_ | refine ul39.go ?_
      first | refine tl40.go ?_ | refine ul40.go ?_
      first | refine tl41.go ?_ | refine ul41.go ?_
      first | refine tl42.go ?_ | refine ul42.go ?_
      refine wpAnyL_ready (rs := [43]) Z1r0 (by simp) (al43 (fun K hK => ?_) (AllReadyL.nil))
      focus go_simp
      refine hK.out _ _ (fun h => absurd rfl h) (fun _ => ?_)
      focus (clear hK K; refine Zp1r ?_)
      refine wpAnyL_done Z1r0 ?_ _; rotate_left 1
      go_wp2
      refine ⟨⟨j + 1, some j, hjl, rfl, congrArg (Value.int .i64) EW.out, (fun b hb => by cases hb; omega), HF.out, hHeld.below⟩, ?_⟩
      rw [EW.out]
      simp only [intOf, Int.toNat_natCast]
      exact meas_lt hjl
     | some b =>
      have hbj := HO.out b rfl
      have hb2 : b < t.basic.length := by omega
      obtain ⟨gB', cB', eB', _, _, q0, _, _⟩ := rowN_rd HT.out.basic hb2
      injection eB' with e1 _ e3
      injection e1 with e1
      injection e1 with e1
      subst e1
      subst e3
      have q0' := kcell HBR.out q0
      obtain ⟨u, hu⟩ : ∃ u, rdN t.basic b = u := ⟨_, rfl⟩
      rw [hu] at q0'
      have HU := Lib.hid hu
      clear hu
      have eb : ((b : Int) < 0) = False := eq_false (by omega)
      have ea : atI (some b) = (b : Int) := rfl
      have HC := Lib.hid (show Cells [(⟨tb, 0, none⟩, .int .i64 vars), (⟨tb, 1, none⟩, .slice (some ⟨gB, 0, none⟩) t.basic.length cb), (⟨tb, 3, none⟩, .slice (some ⟨gV, 0, none⟩) t.value.length cV), (⟨tb, 4, none⟩, .slice (some ⟨gL, 0, none⟩) t.limits.length cL), (⟨gV, v * 2, none⟩, .int .i64 x.num), (⟨gV, v * 2 + 1, none⟩, .int .i64 x.den), (⟨gL, (v - vars) * 2, none⟩, .int .i64 y.num), (⟨gL, (v - vars) * 2 + 1, none⟩, .int .i64 y.den), (⟨gB, b, none⟩, .int .i64 (u : Int))] wr from ⟨c0, c1, c3, c4, x0', x1', y0', y1', q0', trivial⟩)
      clear c0 c3 c4 x0' x1' y0' y1' q0 q0' fx fy
      by_cases hD : v < u
      ·rw [if_pos ⟨hA, hB, fun b' hb' => by cases hb'; rw [HU.out]; exact hD⟩] at hF
       have HF := Lib.hid hF
       have eD : ((v : Int) < (u : Int)) = True := eq_true (by omega)
       clear hF hB
       go_wp2_with fail
       refine wp_region_L 43 (Hd _ w w.heap.size) Z1r0 (⟨Nat.le_refl _, HC.out.keep (Below.refl _ _).drew, HBR.out.drew⟩) (fun hHeld => ?_)
       refine tl0.go ?_
       refine tl1.go ?_
       refine tl2.go ?_
       refine tl3.go ?_
       refine tl4.go ?_
       refine tl5.go ?_
       refine tl6.go ?_
       first | refine tl7.go ?_ | refine ul7.go ?_
       first | refine tl8.go ?_ | refine ul8.go ?_
       first | refine tl9.go ?_ | refine ul9.go ?_
       first | refine tl10.go ?_ | refine ul10.go ?_
       first | refine tl11.go ?_ | refine ul11.go ?_
       first | refine tl12.go ?_ | refine ul12.go ?_
       first | refine tl13.go ?_ | refine ul13.go ?_
       first | refine tl14.go ?_ | refine ul14.go ?_
       first | refine tl15.go ?_ | refine ul15.go ?_
       first | refine tl16.go ?_ | refine ul16.go ?_
       first | refine tl17.go ?_ | refine ul17.go ?_
       first | refine tl18.go ?_ | refine ul18.go ?_
       first | refine tl19.go ?_ | refine ul19.go ?_
       first | refine tl20.go ?_ | refine ul20.go ?_
       first | refine tl21.go ?_ | refine ul21.go ?_
       first | refine tl22.go ?_ | refine ul22.go ?_
       first | refine tl23.go ?_ | refine ul23.go ?_
       first | refine tl24.go ?_ | refine ul24.go ?_
       first | refine tl25.go ?_ | refine ul25.go ?_
       refine al26.ret (HCmp.out _) (fun w2 hb2 hHeld => ?_); (try have HT := tab_keep HT hb2)
       first | refine tl27.go ?_ | refine ul27.go ?_
       refine tl28.go ?_
       refine tl29.go ?_
       first | refine tl30.go ?_ | refine ul30.go ?_
       first | refine tl31.go ?_ | refine ul31.go ?_
       first | refine tl32.go ?_ | refine ul32.go ?_
       first | refine tl33.go ?_ | refine ul33.go ?_
       first | refine tl34.go ?_ | refine ul34.go ?_
       first | refine tl35.go ?_ | refine ul35.go ?_
       first | refine tl36.go ?_ | refine ul36.go ?_
       first | refine tl37.go ?_ | refine ul37.go ?_
       first | refine tl38.go ?_ | refine ul38.go ?_
       first | refine tl39.go ?_ | refine ul39.go ?_
       first | refine tl40.go ?_ | refine ul40.go ?_
       first | refine tl41.go ?_ | refine ul41.go ?_
       first | refine tl42.go ?_ | refine ul42.go ?_
       refine wpAnyL_ready (rs := [43]) Z1r0 (by simp) (al43 (fun K hK => ?_) (AllReadyL.nil))
       focus go_simp
       refine hK.out _ _ (fun h => absurd rfl h) (fun _ => ?_)
       focus (clear hK K; refine Zp1r ?_)
       refine wpAnyL_done Z1r0 ?_ _; rotate_left 1
       go_wp2
       refine ⟨⟨j + 1, some j, hjl, rfl, congrArg (Value.int .i64) EW.out, (fun b hb => by cases hb; omega), HF.out, hHeld.below⟩, ?_⟩
       rw [EW.out]
       simp only [intOf, Int.toNat_natCast]
       exact meas_lt hjl
      ·rw [if_neg (fun h => hD (by have := h.2.2 b rfl; rw [HU.out] at this; exact this))] at hF
       have HF := Lib.hid hF
       have eD : ((v : Int) < (u : Int)) = False := eq_false (by omega)
       clear hF hB
       go_wp2_with fail
       refine wp_region_L 43 (Hd _ w w.heap.size) Z1r0 (⟨Nat.le_refl _, HC.out.keep (Below.refl _ _).drew, HBR.out.drew⟩) (fun hHeld => ?_)
       refine tl0.go ?_
       refine tl1.go ?_
       refine tl2.go ?_
       refine tl3.go ?_
       refine tl4.go ?_
       refine tl5.go ?_
       refine tl6.go ?_
       first | refine tl7.go ?_ | refine ul7.go ?_
       first | refine tl8.go ?_ | refine ul8.go ?_
       first | refine tl9.go ?_ | refine ul9.go ?_
       first | refine tl10.go ?_ | refine ul10.go ?_
       first | refine tl11.go ?_ | refine ul11.go ?_
       first | refine tl12.go ?_ | refine ul12.go ?_
       first | refine tl13.go ?_ | refine ul13.go ?_
       first | refine tl14.go ?_ | refine ul14.go ?_
       first | refine tl15.go ?_ | refine ul15.go ?_
       first | refine tl16.go ?_ | refine ul16.go ?_
       first | refine tl17.go ?_ | refine ul17.go ?_
       first | refine tl18.go ?_ | refine ul18.go ?_
       first | refine tl19.go ?_ | refine ul19.go ?_
       first | refine tl20.go ?_ | refine ul20.go ?_
       first | refine tl21.go ?_ | refine ul21.go ?_
       first | refine tl22.go ?_ | refine ul22.go ?_
       first | refine tl23.go ?_ | refine ul23.go ?_
       first | refine tl24.go ?_ | refine ul24.go ?_
       first | refine tl25.go ?_ | refine ul25.go ?_
       refine al26.ret (HCmp.out _) (fun w2 hb2 hHeld => ?_); (try have HT := tab_keep HT hb2)
       first | refine tl27.go ?_ | refine ul27.go ?_
       refine tl28.go ?_
       refine tl29.go ?_
       first | refine tl30.go ?_ | refine ul30.go ?_
       first | refine tl31.go ?_ | refine ul31.go ?_
       first | refine tl32.go ?_ | refine ul32.go ?_
       first | refine tl33.go ?_ | refine ul33.go ?_
       first | refine tl34.go ?_ | refine ul34.go ?_
       first | refine tl35.go ?_ | refine ul35.go ?_
       first | refine tl36.go ?_ | refine ul36.go ?_
       first | refine tl37.go ?_ | refine ul37.go ?_
       first | refine tl38.go ?_ | refine ul38.go ?_
       first | refine tl39.go ?_ | refine ul39.go ?_
       first | refine tl40.go ?_ | refine ul40.go ?_
       first | refine tl41.go ?_ | refine ul41.go ?_
       first | refine tl42.go ?_ | refine ul42.go ?_
       refine wpAnyL_ready (rs := [43]) Z1r0 (by simp) (al43 (fun K hK => ?_) (AllReadyL.nil))
       focus go_simp
       refine hK.out _ _ (fun h => absurd rfl h) (fun _ => ?_)
       focus (clear hK K; refine Zp1r ?_)
       refine wpAnyL_done Z1r0 ?_ _; rotate_left 1
       go_wp2
       refine ⟨⟨j + 1, some b, hjl, rfl, congrArg (Value.int .i64) EW.out, (fun b hb => by cases hb; omega), HF.out, hHeld.below⟩, ?_⟩
       rw [EW.out]
       simp only [intOf, Int.toNat_natCast]
       exact meas_lt hjl
    ·rw [if_neg (fun h => hB h.2.1)] at hF
     have HF := Lib.hid hF
     have HCmp := Lib.hid (cmp_c fx fy _ rfl)
     have hle := cmpQ_le hB
     generalize cmpQ x y = cc at *
     have HC := Lib.hid (show Cells [(⟨tb, 0, none⟩, .int .i64 vars), (⟨tb, 3, none⟩, .slice (some ⟨gV, 0, none⟩) t.value.length cV), (⟨tb, 4, none⟩, .slice (some ⟨gL, 0, none⟩) t.limits.length cL), (⟨gV, v * 2, none⟩, .int .i64 x.num), (⟨gV, v * 2 + 1, none⟩, .int .i64 x.den), (⟨gL, (v - vars) * 2, none⟩, .int .i64 y.num), (⟨gL, (v - vars) * 2 + 1, none⟩, .int .i64 y.den)] wr from ⟨c0, c3, c4, x0', x1', y0', y1', trivial⟩)
     clear hF c0 c3 c4 x0' x1' y0' y1' hB fx fy
     go_wp2_with fail
     refine wp_region_L 43 (Hd _ w w.heap.size) Z1r0 (⟨Nat.le_refl _, HC.out.keep (Below.refl _ _).drew, HBR.out.drew⟩) (fun hHeld => ?_)
     refine tl0.go ?_
     refine tl1.go ?_
     refine tl2.go ?_
     refine tl3.go ?_
     refine tl4.go ?_
     refine tl5.go ?_
     refine tl6.go ?_
     first | refine tl7.go ?_ | refine ul7.go ?_
     first | refine tl8.go ?_ | refine ul8.go ?_
     first | refine tl9.go ?_ | refine ul9.go ?_
     first | refine tl10.go ?_ | refine ul10.go ?_
     first | refine tl11.go ?_ | refine ul11.go ?_
     first | refine tl12.go ?_ | refine ul12.go ?_
     first | refine tl13.go ?_ | refine ul13.go ?_
     first | refine tl14.go ?_ | refine ul14.go ?_
     first | refine tl15.go ?_ | refine ul15.go ?_
     first | refine tl16.go ?_ | refine ul16.go ?_
     first | refine tl17.go ?_ | refine ul17.go ?_
     first | refine tl18.go ?_ | refine ul18.go ?_
     first | refine tl19.go ?_ | refine ul19.go ?_
     first | refine tl20.go ?_ | refine ul20.go ?_
     first | refine tl21.go ?_ | refine ul21.go ?_
     first | refine tl22.go ?_ | refine ul22.go ?_
     first | refine tl23.go ?_ | refine ul23.go ?_
     first | refine tl24.go ?_ | refine ul24.go ?_
     first | refine tl25.go ?_ | refine ul25.go ?_
     refine al26.ret (HCmp.out _) (fun w2 hb2 hHeld => ?_); (try have HT := tab_keep HT hb2)
     first | refine tl27.go ?_ | refine ul27.go ?_
     refine tl28.go ?_
     refine tl29.go ?_
     first | refine tl30.go ?_ | refine ul30.go ?_
     first | refine tl31.go ?_ | refine ul31.go ?_
     first | refine tl32.go ?_ | refine ul32.go ?_
     first | refine tl33.go ?_ | refine ul33.go ?_
     first | refine tl34.go ?_ | refine ul34.go ?_
     first | refine tl35.go ?_ | refine ul35.go ?_
     first | refine tl36.go ?_ | refine ul36.go ?_
     first | refine tl37.go ?_ | refine ul37.go ?_
     first | refine tl38.go ?_ | refine ul38.go ?_
     first | refine tl39.go ?_ | refine ul39.go ?_
     first | refine tl40.go ?_ | refine ul40.go ?_
     first | refine tl41.go ?_ | refine ul41.go ?_
     first | refine tl42.go ?_ | refine ul42.go ?_
     refine wpAnyL_ready (rs := [43]) Z1r0 (by simp) (al43 (fun K hK => ?_) (AllReadyL.nil))
     focus go_simp
     refine hK.out _ _ (fun h => absurd rfl h) (fun _ => ?_)
     focus (clear hK K; refine Zp1r ?_)
     refine wpAnyL_done Z1r0 ?_ _; rotate_left 1
     go_wp2
     refine ⟨⟨j + 1, o, hjl, rfl, congrArg (Value.int .i64) EW.out, (fun b hb => by have := HO.out b hb; omega), HF.out, hHeld.below⟩, ?_⟩
     rw [EW.out]
     simp only [intOf, Int.toNat_natCast]
     exact meas_lt hjl
   ·rw [if_neg (fun h => hA h.1)] at hF
    have HF := Lib.hid hF
    have eA : ((vars : Int) ≤ (v : Int)) = False := eq_false (by omega)
    have HC := Lib.hid (show Cells [(⟨tb, 0, none⟩, .int .i64 vars)] wr from ⟨c0, trivial⟩)
    clear hF c0 c3 x0' x1' fx fy
    go_wp2_with fail
    refine wp_region_L 43 (Hd _ w w.heap.size) Z1r0 (⟨Nat.le_refl _, HC.out.keep (Below.refl _ _).drew, HBR.out.drew⟩) (fun hHeld => ?_)
    refine tl0.go ?_
    refine tl1.go ?_
    refine tl2.go ?_
    refine tl3.go ?_
    refine tl4.go ?_
    refine tl5.go ?_
    refine tl6.go ?_
    first | refine tl7.go ?_ | refine ul7.go ?_
    first | refine tl8.go ?_ | refine ul8.go ?_
    first | refine tl9.go ?_ | refine ul9.go ?_
    first | refine tl10.go ?_ | refine ul10.go ?_
    first | refine tl11.go ?_ | refine ul11.go ?_
    first | refine tl12.go ?_ | refine ul12.go ?_
    first | refine tl13.go ?_ | refine ul13.go ?_
    first | refine tl14.go ?_ | refine ul14.go ?_
    first | refine tl15.go ?_ | refine ul15.go ?_
    first | refine tl16.go ?_ | refine ul16.go ?_
    first | refine tl17.go ?_ | refine ul17.go ?_
    first | refine tl18.go ?_ | refine ul18.go ?_
    first | refine tl19.go ?_ | refine ul19.go ?_
    first | refine tl20.go ?_ | refine ul20.go ?_
    first | refine tl21.go ?_ | refine ul21.go ?_
    first | refine tl22.go ?_ | refine ul22.go ?_
    first | refine tl23.go ?_ | refine ul23.go ?_
    first | refine tl24.go ?_ | refine ul24.go ?_
    first | refine tl25.go ?_ | refine ul25.go ?_
    refine wpAnyL_ready (rs := [26]) Z1r0 (by simp) (al26 (fun K hK => ?_) (AllReadyL.nil))
    focus go_simp
    refine hK.out _ _ (fun _ => ?_) (fun hHeld => ?_)
    ·exact hHeld
    focus (have hHeld := hHeld (by decide); clear hK K; refine Zp1r ?_)
    first | refine tl27.go ?_ | refine ul27.go ?_
    refine tl28.go ?_
    refine tl29.go ?_
    first | refine tl30.go ?_ | refine ul30.go ?_
    first | refine tl31.go ?_ | refine ul31.go ?_
    first | refine tl32.go ?_ | refine ul32.go ?_
    first | refine tl33.go ?_ | refine ul33.go ?_
    first | refine tl34.go ?_ | refine ul34.go ?_
    first | refine tl35.go ?_ | refine ul35.go ?_
    first | refine tl36.go ?_ | refine ul36.go ?_
    first | refine tl37.go ?_ | refine ul37.go ?_
    first | refine tl38.go ?_ | refine ul38.go ?_
    first | refine tl39.go ?_ | refine ul39.go ?_
    first | refine tl40.go ?_ | refine ul40.go ?_
    first | refine tl41.go ?_ | refine ul41.go ?_
    first | refine tl42.go ?_ | refine ul42.go ?_
    refine wpAnyL_ready (rs := [43]) Z1r0 (by simp) (al43 (fun K hK => ?_) (AllReadyL.nil))
    focus go_simp
    refine hK.out _ _ (fun h => absurd rfl h) (fun _ => ?_)
    focus (clear hK K; refine Zp1r ?_)
    refine wpAnyL_done Z1r0 ?_ _; rotate_left 1
    go_wp2
    refine ⟨⟨j + 1, o, hjl, rfl, congrArg (Value.int .i64) EW.out, (fun b hb => by have := HO.out b hb; omega), HF.out, hHeld.below⟩, ?_⟩
    rw [EW.out]
    simp only [intOf, Int.toNat_natCast]
    exact meas_lt hjl
  ·have hjj : j = t.basic.length := by omega
   subst hjj
   rw [Nat.sub_self, wrongF] at hF
   have HBR := Lib.hid hbr
   clear hbr
   subst hF
   go_wp2
   go_ret
   exact ⟨rfl, HBR.out⟩
end Go.Proofs.Ytmcfcmijopbinaa.Ln
end

section
/- linear's helps. -/
namespace Go.Proofs
theorem Zp1s {p q : Prop} (hq : q) (h : p = q := by first | (simp only [Act.put, List.setIfInBounds_toArray, List.set_cons_zero, List.set_cons_succ]; done) | (simp only [Act.put, List.setIfInBounds_toArray, List.set_cons_zero, List.set_cons_succ]; rfl) | rfl) : p := Eq.mpr h hq
theorem Z1s0 {p : Prop} (h : p := by simp; have := HBR.out.size; omega) : p := h
theorem Z1s1 {p : Prop} (h : p := by kernel_rfl) : p := h
end Go.Proofs
namespace Go.Proofs.Ytmcfcmijopbinaa.Ln
open Go.RowKit Go.Proofs.Ytmcfcmijopbinaa.Num Go.Proofs.Ytmcfcmijopbinaa.Given Go.Proofs.Ytmcfcmijopbinaa.Lin Go.Proofs.YtmcfcmijopbinaaW.PrintWords
set_option linter.unusedVariables false
set_option linter.unusedSimpArgs false
theorem num_pos {x : Rat} : 0 < x.num ↔ 0 < x := by rw [Rat.lt_iff]; simp
theorem num_neg {x : Rat} : x.num < 0 ↔ x < 0 := by rw [Rat.lt_iff]; simp
theorem sign_pos {x : Rat} (h : 0 < x) (w : World) : Calls Try.prog 48 #[rv x] w fun e w' => e = .returned (.int .i64 1) ∧ Below w.heap.size w w' := by
 have h1 := num_pos.2 h
 have : sg0 x.num = 1 := by unfold sg0; rw [if_neg (by omega), if_pos h1]
 rw [← this]; exact sign_q x w
theorem sign_neg {x : Rat} (h : x < 0) (w : World) : Calls Try.prog 48 #[rv x] w fun e w' => e = .returned (.int .i64 (-1)) ∧ Below w.heap.size w w' := by
 have h1 := num_neg.2 h
 have : sg0 x.num = -1 := by unfold sg0; rw [if_pos h1]
 rw [← this]; exact sign_q x w
theorem sign_zero {x : Rat} (h : x = 0) (w : World) : Calls Try.prog 48 #[rv x] w fun e w' => e = .returned (.int .i64 0) ∧ Below w.heap.size w w' := by
 subst h
 exact sign_q 0 w
theorem row_open {w : World} {base : Nat} {v : Value} {l : List Rat} (h : RowQ w base v l) : ∃ A c, v = .slice A l.length c ∧ l.length ≤ c := by
 obtain ⟨_, hv⟩ := h
 rcases hv with ⟨h1, h2⟩ | ⟨g, cap, cur, h, _, _, h3, _⟩
 ·exact ⟨none, 0, by rw [h1, h2], by omega⟩
 ·exact ⟨_, _, h, h3⟩
theorem sgne {x : Rat} (h : ¬ 0 < x) (h2 : ¬ x < 0) : x = 0 := by grind
set_option maxHeartbeats 8000000 in
set_option maxRecDepth 100000 in
theorem helps_any (w : World) (base tb vars i : Nat) (t : Tab) (vb vr vv vl : Value) (rs : List Value) (hT : TabAt w base tb vars t vb vr vv vl rs) (hW : WfT vars t) (hi : i < t.rows.length) :
  Calls Try.prog 30 #[.pointer (some ⟨tb, 0, none⟩), .int .i64 i] w fun e w' => e = .returned (.int .i64 (atI (helps vars t i))) ∧ Below w.heap.size w w' := by
 obtain ⟨r, hr⟩ : ∃ r, helps vars t i = r := ⟨_, rfl⟩
 rw [hr]
 have hir : i < rs.length := by rw [hT.len]; exact hi
 have hRow := hT.row i hir
 obtain ⟨gR, cR, eR, _, _, q0, _, _⟩ := one_at hT.rows hir
 subst eR
 obtain ⟨rv0, hrv⟩ : ∃ rv0, rs[i] = rv0 := ⟨_, rfl⟩
 rw [hrv] at hRow q0
 obtain ⟨Ar, cr, er, _⟩ := row_open hRow
 have hcl := hW.cl i hi
 have HVL := Lib.hid hW.vl
 have HM := Lib.hid hW.max
 have HT := Lib.hid hT
 have HW := Lib.hid hW
 unfold helps at hr
 have hN := hcl
 obtain ⟨row, hrow⟩ : ∃ row, rdR t.rows i = row := ⟨_, rfl⟩
 have hfr := hW.fr i
 rw [hrow] at hRow hr hcl er hfr
 have HROW := Lib.hid hRow
 have HR := Lib.hid hr
 have HCL := Lib.hid hcl
 have HFR := Lib.hid hfr
 subst er
 have b0 : w.cell? ⟨tb, 0, none⟩ = some (.int .i64 vars) := blk_cell hT.box 0
 have b2 : w.cell? ⟨tb, 2, none⟩ = some (.slice (some ⟨gR, 0, none⟩) rs.length cR) := blk_cell hT.box 2
 clear hT hW hr hN hrow hi hcl hfr hRow hrv
 go_enter Try.func30, Try.ntmps30
 go_wp2
 go_loopw [16] (fun v16 wr => ∃ j : Nat, j ≤ row.length ∧ v16 = .int .i64 j ∧ helpsF vars t row (row.length - j) j = r ∧ Below w.heap.size w wr) (fun v16 _ => row.length - (intOf v16).toNat)
 case atStart => exact ⟨0, Nat.zero_le _, rfl, HR.out, Below.refl _ _⟩
 case round =>
  obtain ⟨j, hj, rfl, hF, hbr⟩ := hrel
  by_cases hjl : j < row.length
  ·obtain ⟨gr, cr', er, _, _, z0, z1, _⟩ := rowQ_rd HROW.out hjl
   injection er with e1 _ e3
   subst e1
   subst e3
   rw [show row.length - j = (row.length - (j + 1)) + 1 by omega, helpsF] at hF
   have fc := HFR.out j
   have EW := Lib.hid (wrapj (show j + 1 < 9223372036854775808 by have := HCL.out; have := HM.out; omega))
   have HBR := Lib.hid hbr
   have z0' := kcell hbr z0
   have z1' := kcell hbr z1
   have c0 := kcell hbr b0
   obtain ⟨x, hx⟩ : ∃ x, rdQ row j = x := ⟨_, rfl⟩
   rw [hx] at z0' z1' fc
   have HX := Lib.hid hx
   clear hbr z0 z1 hx b0 b2
   by_cases hp : 0 < x
   ·rw [if_pos (show goodQ vars t row j from .inl (by rw [HX.out]; exact hp))] at hF
    have HS := Lib.hid (sign_pos hp)
    obtain rfl : r = some j := hF.symm
    clear hF fc hp
    go_wp2_with fail
    refine (HS.out _).mono ?_
    rintro e w2 ⟨rfl, hb2⟩
    have HB2 := Lib.hid ((show Below w.heap.size w _ from (HBR.out.alloc HBR.out.size _)).trans (hb2.mono Z1s0))
    have hd0 : Hd [(⟨tb, 0, none⟩, .int .i64 vars)] w w.heap.size w2 := ⟨Nat.le_refl _, (show Cells [(⟨tb, 0, none⟩, .int .i64 vars)] wr from ⟨c0, trivial⟩).keep (((Below.refl wr.heap.size wr).alloc (Nat.le_refl _) _).trans (hb2.mono (by simp))), HB2.out⟩
    clear hb2 z0' z1' c0
    go_wp2_with fail
    refine wp_region_L 36 (Hd _ w w.heap.size) Z1s1 (hd0.drew) (fun hHeld => ?_)
    refine tl0.go ?_
    refine tl1.go ?_
    refine tl2.go ?_
    first | refine tl3.go ?_ | refine ul3.go ?_
    first | refine tl4.go ?_ | refine ul4.go ?_
    first | refine tl5.go ?_ | refine ul5.go ?_
    first | refine tl6.go ?_ | refine ul6.go ?_
    first | refine tl7.go ?_ | refine ul7.go ?_
    first | refine tl8.go ?_ | refine ul8.go ?_
    first | refine tl9.go ?_ | refine ul9.go ?_
    first | refine tl10.go ?_ | refine ul10.go ?_
    first | refine tl11.go ?_ | refine ul11.go ?_
    first | refine tl12.go ?_ | refine ul12.go ?_
    first | refine tl13.go ?_ | refine ul13.go ?_
    first | refine tl14.go ?_ | refine ul14.go ?_
    first | refine tl15.go ?_ | refine ul15.go ?_
    first | refine tl16.go ?_ | refine ul16.go ?_
    first | refine tl17.go ?_ | refine ul17.go ?_
    first | refine tl18.go ?_ | refine ul18.go ?_
    first | refine tl19.go ?_ | refine ul19.go ?_
    first | refine tl20.go ?_ | refine ul20.go ?_
    first | refine tl21.go ?_ | refine ul21.go ?_
    first | refine tl22.go ?_ | refine ul22.go ?_
    first | refine tl23.go ?_ | refine ul23.go ?_
    first | refine tl24.go ?_ | refine ul24.go ?_
    first | refine tl25.go ?_ | refine ul25.go ?_
    first | refine tl26.go ?_ | refine ul26.go ?_
    first | refine tl27.go ?_ | refine ul27.go ?_
    first | refine tl28.go ?_ | refine ul28.go ?_
    first | refine tl29.go ?_ | refine ul29.go ?_
    first | refine tl30.go ?_ | refine ul30.go ?_
    first | refine tl31.go ?_ | refine ul31.go ?_
    refine wpAnyL_ready (rs := [32]) Z1s1 (by simp) (al32 (fun K hK => ?_) (AllReadyL.nil))
    focus go_simp
    refine hK.out _ _ (fun _ => ?_) (fun hHeld => ?_)
    ·exact hHeld
    focus (have hHeld := hHeld (by decide); clear hK K; refine Zp1s ?_)
    first | refine tl33.go ?_ | refine ul33.go ?_
    first | refine tl34.go ?_ | refine ul34.go ?_
    first | refine tl35.go ?_ | refine ul35.go ?_
    refine wpAnyL_ready (rs := [36]) Z1s1 (by simp) (al36 (fun K hK => ?_) (AllReadyL.nil))
    focus go_simp
    refine hK.out _ _ (fun h => absurd rfl h) (fun _ => ?_)
    focus (clear hK K; refine Zp1s ?_)
    refine wpAnyL_done Z1s1 ?_ _; rotate_left 1
    go_wp2
    go_ret
    exact ⟨rfl, hHeld.below⟩
   ·by_cases hn : x < 0
    ·have HS := Lib.hid (sign_neg hn)
     by_cases hv : j < vars
     ·rw [if_pos (show goodQ vars t row j from .inr ⟨by rw [HX.out]; exact hn, .inl hv⟩)] at hF
      obtain rfl : r = some j := hF.symm
      have eV : ((j : Int) < (vars : Int)) = True := eq_true (by omega)
      clear hF fc hp hn
      go_wp2_with fail
      refine (HS.out _).mono ?_
      rintro e w2 ⟨rfl, hb2⟩
      have HB2 := Lib.hid ((show Below w.heap.size w _ from (HBR.out.alloc HBR.out.size _)).trans (hb2.mono Z1s0))
      have hd0 : Hd [(⟨tb, 0, none⟩, .int .i64 vars)] w w.heap.size w2 := ⟨Nat.le_refl _, (show Cells [(⟨tb, 0, none⟩, .int .i64 vars)] wr from ⟨c0, trivial⟩).keep (((Below.refl wr.heap.size wr).alloc (Nat.le_refl _) _).trans (hb2.mono (by simp))), HB2.out⟩
      clear hb2 z0' z1' c0
      go_wp2_with fail
      refine wp_region_L 36 (Hd _ w w.heap.size) Z1s1 (hd0.drew) (fun hHeld => ?_)
      refine tl0.go ?_
      refine tl1.go ?_
      refine tl2.go ?_
      first | refine tl3.go ?_ | refine ul3.go ?_
      first | refine tl4.go ?_ | refine ul4.go ?_
      first | refine tl5.go ?_ | refine ul5.go ?_
      first | refine tl6.go ?_ | refine ul6.go ?_
      first | refine tl7.go ?_ | refine ul7.go ?_
      first | refine tl8.go ?_ | refine ul8.go ?_
      first | refine tl9.go ?_ | refine ul9.go ?_
      first | refine tl10.go ?_ | refine ul10.go ?_
      first | refine tl11.go ?_ | refine ul11.go ?_
      first | refine tl12.go ?_ | refine ul12.go ?_
      first | refine tl13.go ?_ | refine ul13.go ?_
      first | refine tl14.go ?_ | refine ul14.go ?_
      first | refine tl15.go ?_ | refine ul15.go ?_
      first | refine tl16.go ?_ | refine ul16.go ?_
      first | refine tl17.go ?_ | refine ul17.go ?_
      first | refine tl18.go ?_ | refine ul18.go ?_
      first | refine tl19.go ?_ | refine ul19.go ?_
      first | refine tl20.go ?_ | refine ul20.go ?_
      first | refine tl21.go ?_ | refine ul21.go ?_
      first | refine tl22.go ?_ | refine ul22.go ?_
      first | refine tl23.go ?_ | refine ul23.go ?_
      first | refine tl24.go ?_ | refine ul24.go ?_
      first | refine tl25.go ?_ | refine ul25.go ?_
      first | refine tl26.go ?_ | refine ul26.go ?_
      first | refine tl27.go ?_ | refine ul27.go ?_
      first | refine tl28.go ?_ | refine ul28.go ?_
      first | refine tl29.go ?_ | refine ul29.go ?_
      first | refine tl30.go ?_ | refine ul30.go ?_
      first | refine tl31.go ?_ | refine ul31.go ?_
      refine wpAnyL_ready (rs := [32]) Z1s1 (by simp) (al32 (fun K hK => ?_) (AllReadyL.nil))
      focus go_simp
      refine hK.out _ _ (fun _ => ?_) (fun hHeld => ?_)
      ·exact hHeld
      focus (have hHeld := hHeld (by decide); clear hK K; refine Zp1s ?_)
      first | refine tl33.go ?_ | refine ul33.go ?_
      first | refine tl34.go ?_ | refine ul34.go ?_
      first | refine tl35.go ?_ | refine ul35.go ?_
      refine wpAnyL_ready (rs := [36]) Z1s1 (by simp) (al36 (fun K hK => ?_) (AllReadyL.nil))
      focus go_simp
      refine hK.out _ _ (fun h => absurd rfl h) (fun _ => ?_)
      focus (clear hK K; refine Zp1s ?_)
      refine wpAnyL_done Z1s1 ?_ _; rotate_left 1
      go_wp2
      go_ret
      exact ⟨rfl, hHeld.below⟩
     ·have eV : ((j : Int) < (vars : Int)) = False := eq_false (by omega)
      have hjv : j < t.value.length := by have := HCL.out; omega
      have h2 : j - vars < t.limits.length := by have := HVL.out; omega
      obtain ⟨gV, cV, eV', _, _, x0, x1, _⟩ := rowQ_rd HT.out.value hjv
      obtain ⟨gL, cL, eL', _, _, y0, y1, _⟩ := rowQ_rd HT.out.limits h2
      have b3 : w.cell? ⟨tb, 3, none⟩ = some (.slice (some ⟨gV, 0, none⟩) t.value.length cV) := by rw [← eV']; exact blk_cell HT.out.box 3
      have b4 : w.cell? ⟨tb, 4, none⟩ = some (.slice (some ⟨gL, 0, none⟩) t.limits.length cL) := by rw [← eL']; exact blk_cell HT.out.box 4
      have fx := HW.out.fv j
      have fy := HW.out.fl (j - vars)
      obtain ⟨a, ha⟩ : ∃ a, rdQ t.value j = a := ⟨_, rfl⟩
      obtain ⟨b, hb⟩ : ∃ b, rdQ t.limits (j - vars) = b := ⟨_, rfl⟩
      rw [ha] at x0 x1 fx
      rw [hb] at y0 y1 fy
      have HA := Lib.hid ha
      have HB := Lib.hid hb
      have ew := wrapsub (show vars ≤ j by omega) (show j < 9223372036854775808 by have := HM.out; omega)
      have ew2 : IntKind.i64.wrap ((j : Int) - (vars : Int)) = ((j - vars : Nat) : Int) := by rw [IntKind.wrap_i64]; unfold wrap64 at ew; exact ew
      have HC := Lib.hid (show Cells [(⟨tb, 0, none⟩, .int .i64 vars), (⟨tb, 3, none⟩, .slice (some ⟨gV, 0, none⟩) t.value.length cV), (⟨tb, 4, none⟩, .slice (some ⟨gL, 0, none⟩) t.limits.length cL), (⟨gV, j * 2, none⟩, .int .i64 a.num), (⟨gV, j * 2 + 1, none⟩, .int .i64 a.den), (⟨gL, (j - vars) * 2, none⟩, .int .i64 b.num), (⟨gL, (j - vars) * 2 + 1, none⟩, .int .i64 b.den)] wr from ⟨c0, kcell HBR.out b3, kcell HBR.out b4, kcell HBR.out x0, kcell HBR.out x1, kcell HBR.out y0, kcell HBR.out y1, trivial⟩)
      clear ha hb x0 x1 y0 y1 b3 b4 eV' eL'
      by_cases hl : a < b
      ·rw [if_pos (show goodQ vars t row j from .inr ⟨by rw [HX.out]; exact hn, .inr (by rw [HA.out, HB.out]; exact hl)⟩)] at hF
       obtain rfl : r = some j := hF.symm
       have HCmp := Lib.hid (cmp_c fx fy (-1) (cmpQ_lt hl))
       clear hF fc hp hn hl fx fy
       go_wp2_with fail
       refine (HS.out _).mono ?_
       rintro e w2 ⟨rfl, hb2⟩
       have HB2 := Lib.hid ((show Below w.heap.size w _ from (HBR.out.alloc HBR.out.size _)).trans (hb2.mono Z1s0))
       have HD0 := Lib.hid (show Hd _ w w.heap.size w2 from ⟨Nat.le_refl _, HC.out.keep (((Below.refl wr.heap.size wr).alloc (Nat.le_refl _) _).trans (hb2.mono (by simp))), HB2.out⟩)
       clear hb2 z0' z1' c0
       go_wp2_with fail
       refine wp_region_L 36 (Hd _ w w.heap.size) Z1s1 (HD0.out.drew) (fun hHeld => ?_)
       refine tl0.go ?_
       refine tl1.go ?_
       refine tl2.go ?_
       first | refine tl3.go ?_ | refine ul3.go ?_
       first | refine tl4.go ?_ | refine ul4.go ?_
       first | refine tl5.go ?_ | refine ul5.go ?_
       first | refine tl6.go ?_ | refine ul6.go ?_
       first | refine tl7.go ?_ | refine ul7.go ?_
       first | refine tl8.go ?_ | refine ul8.go ?_
       first | refine tl9.go ?_ | refine ul9.go ?_
       first | refine tl10.go ?_ | refine ul10.go ?_
       first | refine tl11.go ?_ | refine ul11.go ?_
       first | refine tl12.go ?_ | refine ul12.go ?_
       first | refine tl13.go ?_ | refine ul13.go ?_
       first | refine tl14.go ?_ | refine ul14.go ?_
       first | refine tl15.go ?_ | refine ul15.go ?_
       first | refine tl16.go ?_ | refine ul16.go ?_
       first | refine tl17.go ?_ | refine ul17.go ?_
       first | refine tl18.go ?_ | refine ul18.go ?_
       first | refine tl19.go ?_ | refine ul19.go ?_
       first | refine tl20.go ?_ | refine ul20.go ?_
       first | refine tl21.go ?_ | refine ul21.go ?_
       first | refine tl22.go ?_ | refine ul22.go ?_
       first | refine tl23.go ?_ | refine ul23.go ?_
       first | refine tl24.go ?_ | refine ul24.go ?_
       first | refine tl25.go ?_ | refine ul25.go ?_
       first | refine tl26.go ?_ | refine ul26.go ?_
       first | refine tl27.go ?_ | refine ul27.go ?_
       first | refine tl28.go ?_ | refine ul28.go ?_
       first | refine tl29.go ?_ | refine ul29.go ?_
       first | refine tl30.go ?_ | refine ul30.go ?_
       first | refine tl31.go ?_ | refine ul31.go ?_
       refine al32.ret (HCmp.out _) (fun w2 hb2 hHeld => ?_); (try have HT := tab_keep HT hb2)
       first | refine tl33.go ?_ | refine ul33.go ?_
       first | refine tl34.go ?_ | refine ul34.go ?_
       first | refine tl35.go ?_ | refine ul35.go ?_
       refine wpAnyL_ready (rs := [36]) Z1s1 (by simp) (al36 (fun K hK => ?_) (AllReadyL.nil))
       focus go_simp
       refine hK.out _ _ (fun h => absurd rfl h) (fun _ => ?_)
       focus (clear hK K; refine Zp1s ?_)
       refine wpAnyL_done Z1s1 ?_ _; rotate_left 1
       go_wp2
       go_ret
       exact ⟨rfl, hHeld.below⟩
      ·rw [if_neg (show ¬ goodQ vars t row j by unfold goodQ; rw [HX.out, HA.out, HB.out]; rintro (h | ⟨_, h | h⟩); exact hp h; exact hv h; exact hl h)] at hF
       have HF := Lib.hid hF
       have HCmp := Lib.hid (cmp_c fx fy _ rfl)
       have hle := cmpQ_ge hl
       generalize cmpQ a b = cc at *
       clear hF fc hp hn hl fx fy
       go_wp2_with fail
       refine (HS.out _).mono ?_
       rintro e w2 ⟨rfl, hb2⟩
       have HB2 := Lib.hid ((show Below w.heap.size w _ from (HBR.out.alloc HBR.out.size _)).trans (hb2.mono Z1s0))
       have HD0 := Lib.hid (show Hd _ w w.heap.size w2 from ⟨Nat.le_refl _, HC.out.keep (((Below.refl wr.heap.size wr).alloc (Nat.le_refl _) _).trans (hb2.mono (by simp))), HB2.out⟩)
       clear hb2 z0' z1' c0
       go_wp2_with fail
       refine wp_region_L 36 (Hd _ w w.heap.size) Z1s1 (HD0.out.drew) (fun hHeld => ?_)
       refine tl0.go ?_
       refine tl1.go ?_
       refine tl2.go ?_
       first | refine tl3.go ?_ | refine ul3.go ?_
       first | refine tl4.go ?_ | refine ul4.go ?_
       first | refine tl5.go ?_ | refine ul5.go ?_
       first | refine tl6.go ?_ | refine ul6.go ?_
       first | refine tl7.go ?_ | refine ul7.go ?_
       first | refine tl8.go ?_ | refine ul8.go ?_
       first | refine tl9.go ?_ | refine ul9.go ?_
       first | refine tl10.go ?_ | refine ul10.go ?_
       first | refine tl11.go ?_ | refine ul11.go ?_
       first | refine tl12.go ?_ | refine ul12.go ?_
       first | refine tl13.go ?_ | refine ul13.go ?_
       first | refine tl14.go ?_ | refine ul14.go ?_
       first | refine tl15.go ?_ | refine ul15.go ?_
       first | refine tl16.go ?_ | refine ul16.go ?_
       first | refine tl17.go ?_ | refine ul17.go ?_
       first | refine tl18.go ?_ | refine ul18.go ?_
       first | refine tl19.go ?_ | refine ul19.go ?_
       first | refine tl20.go ?_ | refine ul20.go ?_
       first | refine tl21.go ?_ | refine ul21.go ?_
       first | refine tl22.go ?_ | refine ul22.go ?_
       first | refine tl23.go ?_ | refine ul23.go ?_
       first | refine tl24.go ?_ | refine ul24.go ?_
       first | refine tl25.go ?_ | refine ul25.go ?_
       first | refine tl26.go ?_ | refine ul26.go ?_
       first | refine tl27.go ?_ | refine ul27.go ?_
       first | refine tl28.go ?_ | refine ul28.go ?_
       first | refine tl29.go ?_ | refine ul29.go ?_
       first | refine tl30.go ?_ | refine ul30.go ?_
       first | refine tl31.go ?_ | refine ul31.go ?_
       refine al32.ret (HCmp.out _) (fun w2 hb2 hHeld => ?_); (try have HT := tab_keep HT hb2)
       first | refine tl33.go ?_ | refine ul33.go ?_
       first | refine tl34.go ?_ | refine ul34.go ?_
       first | refine tl35.go ?_ | refine ul35.go ?_
       refine wpAnyL_ready (rs := [36]) Z1s1 (by simp) (al36 (fun K hK => ?_) (AllReadyL.nil))
       focus go_simp
       refine hK.out _ _ (fun h => absurd rfl h) (fun _ => ?_)
       focus (clear hK K; refine Zp1s ?_)
       refine wpAnyL_done Z1s1 ?_ _; rotate_left 1
       go_wp2
       refine ⟨⟨j + 1, hjl, congrArg (Value.int .i64) EW.out, HF.out, hHeld.below⟩, ?_⟩
       rw [EW.out]
       simp only [intOf, Int.toNat_natCast]
       exact meas_lt hjl
    ·rw [if_neg (show ¬ goodQ vars t row j by unfold goodQ; rw [HX.out]; rintro (h | ⟨h, _⟩); exact hp h; exact hn h)] at hF
     have HF := Lib.hid hF
     have HS := Lib.hid (sign_zero (sgne hp hn))
     clear hF fc hp hn
     go_wp2_with fail
     refine (HS.out _).mono ?_
     rintro e w2 ⟨rfl, hb2⟩
     have HB2 := Lib.hid ((show Below w.heap.size w _ from (HBR.out.alloc HBR.out.size _)).trans (hb2.mono Z1s0))
     have hd0 : Hd [(⟨tb, 0, none⟩, .int .i64 vars)] w w.heap.size w2 := ⟨Nat.le_refl _, (show Cells [(⟨tb, 0, none⟩, .int .i64 vars)] wr from ⟨c0, trivial⟩).keep (((Below.refl wr.heap.size wr).alloc (Nat.le_refl _) _).trans (hb2.mono (by simp))), HB2.out⟩
     clear hb2 z0' z1' c0
     go_wp2_with fail
     refine wp_region_L 36 (Hd _ w w.heap.size) Z1s1 (hd0.drew) (fun hHeld => ?_)
     refine tl0.go ?_
     refine tl1.go ?_
     refine tl2.go ?_
     first | refine tl3.go ?_ | refine ul3.go ?_
     first | refine tl4.go ?_ | refine ul4.go ?_
     first | refine tl5.go ?_ | refine ul5.go ?_
     first | refine tl6.go ?_ | refine ul6.go ?_
     first | refine tl7.go ?_ | refine ul7.go ?_
     first | refine tl8.go ?_ | refine ul8.go ?_
     first | refine tl9.go ?_ | refine ul9.go ?_
     first | refine tl10.go ?_ | refine ul10.go ?_
     first | refine tl11.go ?_ | refine ul11.go ?_
     first | refine tl12.go ?_ | refine ul12.go ?_
     first | refine tl13.go ?_ | refine ul13.go ?_
     first | refine tl14.go ?_ | refine ul14.go ?_
     first | refine tl15.go ?_ | refine ul15.go ?_
     first | refine tl16.go ?_ | refine ul16.go ?_
     first | refine tl17.go ?_ | refine ul17.go ?_
     first | refine tl18.go ?_ | refine ul18.go ?_
     first | refine tl19.go ?_ | refine ul19.go ?_
     first | refine tl20.go ?_ | refine ul20.go ?_
     first | refine tl21.go ?_ | refine ul21.go ?_
     first | refine tl22.go ?_ | refine ul22.go ?_
     first | refine tl23.go ?_ | refine ul23.go ?_
     first | refine tl24.go ?_ | refine ul24.go ?_
     first | refine tl25.go ?_ | refine ul25.go ?_
     first | refine tl26.go ?_ | refine ul26.go ?_
     first | refine tl27.go ?_ | refine ul27.go ?_
     first | refine tl28.go ?_ | refine ul28.go ?_
     first | refine tl29.go ?_ | refine ul29.go ?_
     first | refine tl30.go ?_ | refine ul30.go ?_
     first | refine tl31.go ?_ | refine ul31.go ?_
     refine wpAnyL_ready (rs := [32]) Z1s1 (by simp) (al32 (fun K hK => ?_) (AllReadyL.nil))
     focus go_simp
     refine hK.out _ _ (fun _ => ?_) (fun hHeld => ?_)
     ·exact hHeld
     focus (have hHeld := hHeld (by decide); clear hK K; refine Zp1s ?_)
     first | refine tl33.go ?_ | refine ul33.go ?_
     first | refine tl34.go ?_ | refine ul34.go ?_
     first | refine tl35.go ?_ | refine ul35.go ?_
     refine wpAnyL_ready (rs := [36]) Z1s1 (by simp) (al36 (fun K hK => ?_) (AllReadyL.nil))
     focus go_simp
     refine hK.out _ _ (fun h => absurd rfl h) (fun _ => ?_)
     focus (clear hK K; refine Zp1s ?_)
     refine wpAnyL_done Z1s1 ?_ _; rotate_left 1
     go_wp2
     refine ⟨⟨j + 1, hjl, congrArg (Value.int .i64) EW.out, HF.out, hHeld.below⟩, ?_⟩
     rw [EW.out]
     simp only [intOf, Int.toNat_natCast]
     exact meas_lt hjl
  ·have hjj : j = row.length := by omega
   subst hjj
   rw [Nat.sub_self, helpsF] at hF
   have HBR := Lib.hid hbr
   clear hbr
   subst hF
   go_wp2
   go_ret
   exact ⟨rfl, HBR.out⟩
end Go.Proofs.Ytmcfcmijopbinaa.Ln
end
