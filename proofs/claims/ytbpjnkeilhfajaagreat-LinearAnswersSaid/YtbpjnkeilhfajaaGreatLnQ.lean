/- linear's wrong. -/
import Derived.Test.YtbpjnkeilhfajaaGreatTl
import Derived.Test.YtbpjnkeilhfajaaGreatLinW
namespace Go.Proofs
theorem Zp1x {p q : Prop} (hq : q) (h : p = q := by first | (simp only [Act.put, List.setIfInBounds_toArray, List.set_cons_zero, List.set_cons_succ]; done) | (simp only [Act.put, List.setIfInBounds_toArray, List.set_cons_zero, List.set_cons_succ]; rfl) | rfl) : p := Eq.mpr h hq
theorem Z1x0 {p : Prop} (h : p := by kernel_rfl) : p := h
end Go.Proofs
namespace Go.Proofs.YtbpjnkeilhfajaaGreat.Ln
open Go.RowKit Go.Proofs.YtbpjnkeilhfajaaGreat.Num Go.Proofs.YtbpjnkeilhfajaaGreat.Given Go.Proofs.YtbpjnkeilhfajaaGreat.Lin Go.Proofs.YtbpjnkeilhfajaaGreatW.PrintWords
set_option linter.unusedVariables false
set_option linter.unusedSimpArgs false
theorem cmp_c {x y : Rat} (hx : Fit x) (hy : Fit y) (c : Int) (h : cmpQ x y = c) (w : World) :
  Calls Tryz.prog 25 #[rv x, rv y] w fun e w' => e = .returned (.int .i64 c) ∧ Below w.heap.size w w' := by subst h; exact cmp_is hx hy w
theorem cmpQ_gt {x y : Rat} (h : y < x) : cmpQ x y = 1 := by
 unfold cmpQ
 rw [if_neg (by grind), if_neg (by grind)]
theorem cmpQ_le {x y : Rat} (h : ¬ y < x) : (0 < cmpQ x y) = False := by
 apply eq_false
 unfold cmpQ
 split
 ·omega
 ·rw [if_pos (by grind)]; omega
theorem cmpQ_lt {x y : Rat} (h : x < y) : cmpQ x y = -1 := by
 unfold cmpQ
 rw [if_pos h]
theorem cmpQ_ge {x y : Rat} (h : ¬ x < y) : (cmpQ x y < 0) = False := by
 apply eq_false
 unfold cmpQ
 rw [if_neg h]
 split <;> omega
def atI : Option Nat → Int
 | none => -1
 | some b => b
set_option maxHeartbeats 8000000 in
set_option maxRecDepth 100000 in
theorem wrong_any (w : World) (base tb vars : Nat) (t : Tab) (vb vr vv vl : Value) (rs : List Value) (hT : TabAt w base tb vars t vb vr vv vl rs) (hW : WfT vars t) :
  Calls Tryz.prog 54 #[.pointer (some ⟨tb, 0, none⟩)] w fun e w' => e = .returned (.int .i64 (atI (wrong vars t))) ∧ Below w.heap.size w w' := by
 obtain ⟨r, hr⟩ : ∃ r, wrong vars t = r := ⟨_, rfl⟩
 rw [hr]
 have HBL := Lib.hid hW.bl
 have HVL := Lib.hid hW.vl
 have HM := Lib.hid hW.max
 have HT := Lib.hid hT
 have HW := Lib.hid hW
 have HR := Lib.hid hr
 obtain ⟨nb, cb, evb⟩ : ∃ nb cb, vb = .slice nb t.basic.length cb := by
  obtain ⟨_, hv⟩ := hT.basic
  rcases hv with ⟨h1, h2⟩ | ⟨g, cap, cur, h, _⟩
  ·exact ⟨none, 0, by rw [h1, h2]⟩
  ·exact ⟨_, _, h⟩
 subst evb
 have b0 : w.cell? ⟨tb, 0, none⟩ = some (.int .i64 vars) := blk_cell hT.box 0
 have b1 : w.cell? ⟨tb, 1, none⟩ = some (.slice nb t.basic.length cb) := blk_cell hT.box 1
 clear hT hW hr
 go_enter Tryz.func54, Tryz.ntmps54
 go_wp2
 go_loopw [3, 11] (fun v3 v11 wr => ∃ (j : Nat) (o : Option Nat), j ≤ t.basic.length ∧ v3 = .int .i64 (atI o) ∧ v11 = .int .i64 j ∧ (∀ b, o = some b → b < j) ∧ wrongF vars t (t.basic.length - j) j o = r ∧ Below w.heap.size w wr) (fun _ v11 _ => t.basic.length - (intOf v11).toNat)
 case atStart => exact ⟨0, none, Nat.zero_le _, rfl, rfl, (fun b hb => by cases hb), HR.out, Below.refl _ _⟩
 case round =>
  obtain ⟨j, o, hj, rfl, rfl, ho, hF, hbr⟩ := hrel
  by_cases hjl : j < t.basic.length
  ·obtain ⟨gB, cB, eB, _, _, z0, _, _⟩ := rowN_rd HT.out.basic hjl
   injection eB with e1 _ e3
   subst e1
   subst e3
   have hv := HW.out.bas j hjl
   obtain ⟨gV, cV, eV, _, _, x0, x1, _⟩ := rowQ_rd HT.out.value hv
   have b3 : w.cell? ⟨tb, 3, none⟩ = some (.slice (some ⟨gV, 0, none⟩) t.value.length cV) := by rw [← eV]; exact blk_cell HT.out.box 3
   rw [show t.basic.length - j = (t.basic.length - (j + 1)) + 1 by omega, wrongF] at hF
   have fx := HW.out.fv (rdN t.basic j)
   have fy := HW.out.fl (rdN t.basic j - vars)
   have EW := Lib.hid (wrapj (show j + 1 < 9223372036854775808 by have := HBL.out; have := HVL.out; have := HM.out; omega))
   have HBR := Lib.hid hbr
   have HO := Lib.hid ho
   have z0' := kcell (hbr) z0
   have c0 := kcell hbr b0
   have c1 := kcell hbr b1
   have c3 := kcell hbr b3
   have x0' := kcell hbr x0
   have x1' := kcell hbr x1
   generalize rdN t.basic j = v at *
   generalize rdQ t.value v = x at *
   clear hbr ho x0 x1 eV b3 z0
   by_cases hA : vars ≤ v
   ·have h2 : v - vars < t.limits.length := by have := HVL.out; omega
    obtain ⟨gL, cL, eL, _, _, y0, y1, _⟩ := rowQ_rd HT.out.limits h2
    have b4 : w.cell? ⟨tb, 4, none⟩ = some (.slice (some ⟨gL, 0, none⟩) t.limits.length cL) := by rw [← eL]; exact blk_cell HT.out.box 4
    have ew := wrapsub hA (show v < 9223372036854775808 by have := HM.out; omega)
    have ew2 : IntKind.i64.wrap ((v : Int) - (vars : Int)) = ((v - vars : Nat) : Int) := by rw [IntKind.wrap_i64]; unfold wrap64 at ew; exact ew
    have c4 := kcell HBR.out b4
    have y0' := kcell HBR.out y0
    have y1' := kcell HBR.out y1
    generalize rdQ t.limits (v - vars) = y at *
    have eA : ((vars : Int) ≤ (v : Int)) = True := eq_true (by omega)
    clear b4 y0 y1 eL
    by_cases hB : y < x
    ·have hc := cmp_c fx fy 1 (cmpQ_gt hB)
     have HCmp := Lib.hid hc
     clear hc
     cases o with
     | none =>
      rw [if_pos ⟨hA, hB, fun b hb => by cases hb⟩] at hF
      have HF := Lib.hid hF
      have HC := Lib.hid (show Cells [(⟨tb, 0, none⟩, .int .i64 vars), (⟨tb, 3, none⟩, .slice (some ⟨gV, 0, none⟩) t.value.length cV), (⟨tb, 4, none⟩, .slice (some ⟨gL, 0, none⟩) t.limits.length cL), (⟨gV, v * 2, none⟩, .int .i64 x.num), (⟨gV, v * 2 + 1, none⟩, .int .i64 x.den), (⟨gL, (v - vars) * 2, none⟩, .int .i64 y.num), (⟨gL, (v - vars) * 2 + 1, none⟩, .int .i64 y.den)] wr from ⟨c0, c3, c4, x0', x1', y0', y1', trivial⟩)
      clear hF c0 c3 c4 x0' x1' y0' y1' hB fx fy
      go_wp2_with fail
      refine wp_region_L 43 (Hd _ w w.heap.size) Z1x0 (⟨Nat.le_refl _, HC.out.keep (Below.refl _ _).drew, HBR.out.drew⟩) (fun hHeld => ?_)
      refine tl0.go ?_
      refine tl1.go ?_
      refine tl2.go ?_
      refine tl3.go ?_
      refine tl4.go ?_
      refine tl5.go ?_
      refine tl6.go ?_
      first | refine tl7.go ?_ | refine ul7.go ?_
      first | refine tl8.go ?_ | refine ul8.go ?_
      first | refine tl9.go ?_ | refine ul9.go ?_
      first | refine tl10.go ?_ | refine ul10.go ?_
      first | refine tl11.go ?_ | refine ul11.go ?_
      first | refine tl12.go ?_ | refine ul12.go ?_
      first | refine tl13.go ?_ | refine ul13.go ?_
      first | refine tl14.go ?_ | refine ul14.go ?_
      first | refine tl15.go ?_ | refine ul15.go ?_
      first | refine tl16.go ?_ | refine ul16.go ?_
      first | refine tl17.go ?_ | refine ul17.go ?_
      first | refine tl18.go ?_ | refine ul18.go ?_
      first | refine tl19.go ?_ | refine ul19.go ?_
      first | refine tl20.go ?_ | refine ul20.go ?_
      first | refine tl21.go ?_ | refine ul21.go ?_
      first | refine tl22.go ?_ | refine ul22.go ?_
      first | refine tl23.go ?_ | refine ul23.go ?_
      first | refine tl24.go ?_ | refine ul24.go ?_
      first | refine tl25.go ?_ | refine ul25.go ?_
      refine al26.ret (HCmp.out _) (fun w2 hb2 hHeld => ?_); (try have HT := tab_keep HT hb2)
      first | refine tl27.go ?_ | refine ul27.go ?_
      refine tl28.go ?_
      refine tl29.go ?_
      first | refine tl30.go ?_ | refine ul30.go ?_
      first | refine tl31.go ?_ | refine ul31.go ?_
      first | refine tl32.go ?_ | refine ul32.go ?_
      first | refine tl33.go ?_ | refine ul33.go ?_
      first | refine tl34.go ?_ | refine ul34.go ?_
      first | refine tl35.go ?_ | refine ul35.go ?_
      first | refine tl36.go ?_ | refine ul36.go ?_
      first | refine tl37.go ?_ | refine ul37.go ?_
      first | refine tl38.go ?_ | refine ul38.go ?_
      first | refine tl39.go ?_ | refine ul39.go ?_
      first | refine tl40.go ?_ | refine ul40.go ?_
      first | refine tl41.go ?_ | refine ul41.go ?_
      first | refine tl42.go ?_ | refine ul42.go ?_
      refine wpAnyL_ready (rs := [43]) Z1x0 (by simp) (al43 (fun K hK => ?_) (AllReadyL.nil))
      focus go_simp
      refine hK.out _ _ (fun h => absurd rfl h) (fun _ => ?_)
      focus (clear hK K; refine Zp1x ?_)
      refine wpAnyL_done Z1x0 ?_ _; rotate_left 1
      go_wp2
      refine ⟨⟨j + 1, some j, hjl, rfl, congrArg (Value.int .i64) EW.out, (fun b hb => by cases hb; omega), HF.out, hHeld.below⟩, ?_⟩
      rw [EW.out]
      simp only [intOf, Int.toNat_natCast]
      exact meas_lt hjl
     | some b =>
      have hbj := HO.out b rfl
      have hb2 : b < t.basic.length := by omega
      obtain ⟨gB', cB', eB', _, _, q0, _, _⟩ := rowN_rd HT.out.basic hb2
      injection eB' with e1 _ e3
      injection e1 with e1
      injection e1 with e1
      subst e1
      subst e3
      have q0' := kcell HBR.out q0
      obtain ⟨u, hu⟩ : ∃ u, rdN t.basic b = u := ⟨_, rfl⟩
      rw [hu] at q0'
      have HU := Lib.hid hu
      clear hu
      have eb : ((b : Int) < 0) = False := eq_false (by omega)
      have ea : atI (some b) = (b : Int) := rfl
      have HC := Lib.hid (show Cells [(⟨tb, 0, none⟩, .int .i64 vars), (⟨tb, 1, none⟩, .slice (some ⟨gB, 0, none⟩) t.basic.length cb), (⟨tb, 3, none⟩, .slice (some ⟨gV, 0, none⟩) t.value.length cV), (⟨tb, 4, none⟩, .slice (some ⟨gL, 0, none⟩) t.limits.length cL), (⟨gV, v * 2, none⟩, .int .i64 x.num), (⟨gV, v * 2 + 1, none⟩, .int .i64 x.den), (⟨gL, (v - vars) * 2, none⟩, .int .i64 y.num), (⟨gL, (v - vars) * 2 + 1, none⟩, .int .i64 y.den), (⟨gB, b, none⟩, .int .i64 (u : Int))] wr from ⟨c0, c1, c3, c4, x0', x1', y0', y1', q0', trivial⟩)
      clear c0 c3 c4 x0' x1' y0' y1' q0 q0' fx fy
      by_cases hD : v < u
      ·rw [if_pos ⟨hA, hB, fun b' hb' => by cases hb'; rw [HU.out]; exact hD⟩] at hF
       have HF := Lib.hid hF
       have eD : ((v : Int) < (u : Int)) = True := eq_true (by omega)
       clear hF hB
       go_wp2_with fail
       refine wp_region_L 43 (Hd _ w w.heap.size) Z1x0 (⟨Nat.le_refl _, HC.out.keep (Below.refl _ _).drew, HBR.out.drew⟩) (fun hHeld => ?_)
       refine tl0.go ?_
       refine tl1.go ?_
       refine tl2.go ?_
       refine tl3.go ?_
       refine tl4.go ?_
       refine tl5.go ?_
       refine tl6.go ?_
       first | refine tl7.go ?_ | refine ul7.go ?_
       first | refine tl8.go ?_ | refine ul8.go ?_
       first | refine tl9.go ?_ | refine ul9.go ?_
       first | refine tl10.go ?_ | refine ul10.go ?_
       first | refine tl11.go ?_ | refine ul11.go ?_
       first | refine tl12.go ?_ | refine ul12.go ?_
       first | refine tl13.go ?_ | refine ul13.go ?_
       first | refine tl14.go ?_ | refine ul14.go ?_
       first | refine tl15.go ?_ | refine ul15.go ?_
       first | refine tl16.go ?_ | refine ul16.go ?_
       first | refine tl17.go ?_ | refine ul17.go ?_
       first | refine tl18.go ?_ | refine ul18.go ?_
       first | refine tl19.go ?_ | refine ul19.go ?_
       first | refine tl20.go ?_ | refine ul20.go ?_
       first | refine tl21.go ?_ | refine ul21.go ?_
       first | refine tl22.go ?_ | refine ul22.go ?_
       first | refine tl23.go ?_ | refine ul23.go ?_
       first | refine tl24.go ?_ | refine ul24.go ?_
       first | refine tl25.go ?_ | refine ul25.go ?_
       refine al26.ret (HCmp.out _) (fun w2 hb2 hHeld => ?_); (try have HT := tab_keep HT hb2)
       first | refine tl27.go ?_ | refine ul27.go ?_
       refine tl28.go ?_
       refine tl29.go ?_
       first | refine tl30.go ?_ | refine ul30.go ?_
       first | refine tl31.go ?_ | refine ul31.go ?_
       first | refine tl32.go ?_ | refine ul32.go ?_
       first | refine tl33.go ?_ | refine ul33.go ?_
       first | refine tl34.go ?_ | refine ul34.go ?_
       first | refine tl35.go ?_ | refine ul35.go ?_
       first | refine tl36.go ?_ | refine ul36.go ?_
       first | refine tl37.go ?_ | refine ul37.go ?_
       first | refine tl38.go ?_ | refine ul38.go ?_
       first | refine tl39.go ?_ | refine ul39.go ?_
       first | refine tl40.go ?_ | refine ul40.go ?_
       first | refine tl41.go ?_ | refine ul41.go ?_
       first | refine tl42.go ?_ | refine ul42.go ?_
       refine wpAnyL_ready (rs := [43]) Z1x0 (by simp) (al43 (fun K hK => ?_) (AllReadyL.nil))
       focus go_simp
       refine hK.out _ _ (fun h => absurd rfl h) (fun _ => ?_)
       focus (clear hK K; refine Zp1x ?_)
       refine wpAnyL_done Z1x0 ?_ _; rotate_left 1
       go_wp2
       refine ⟨⟨j + 1, some j, hjl, rfl, congrArg (Value.int .i64) EW.out, (fun b hb => by cases hb; omega), HF.out, hHeld.below⟩, ?_⟩
       rw [EW.out]
       simp only [intOf, Int.toNat_natCast]
       exact meas_lt hjl
      ·rw [if_neg (fun h => hD (by have := h.2.2 b rfl; rw [HU.out] at this; exact this))] at hF
       have HF := Lib.hid hF
       have eD : ((v : Int) < (u : Int)) = False := eq_false (by omega)
       clear hF hB
       go_wp2_with fail
       refine wp_region_L 43 (Hd _ w w.heap.size) Z1x0 (⟨Nat.le_refl _, HC.out.keep (Below.refl _ _).drew, HBR.out.drew⟩) (fun hHeld => ?_)
       refine tl0.go ?_
       refine tl1.go ?_
       refine tl2.go ?_
       refine tl3.go ?_
       refine tl4.go ?_
       refine tl5.go ?_
       refine tl6.go ?_
       first | refine tl7.go ?_ | refine ul7.go ?_
       first | refine tl8.go ?_ | refine ul8.go ?_
       first | refine tl9.go ?_ | refine ul9.go ?_
       first | refine tl10.go ?_ | refine ul10.go ?_
       first | refine tl11.go ?_ | refine ul11.go ?_
       first | refine tl12.go ?_ | refine ul12.go ?_
       first | refine tl13.go ?_ | refine ul13.go ?_
       first | refine tl14.go ?_ | refine ul14.go ?_
       first | refine tl15.go ?_ | refine ul15.go ?_
       first | refine tl16.go ?_ | refine ul16.go ?_
       first | refine tl17.go ?_ | refine ul17.go ?_
       first | refine tl18.go ?_ | refine ul18.go ?_
       first | refine tl19.go ?_ | refine ul19.go ?_
       first | refine tl20.go ?_ | refine ul20.go ?_
       first | refine tl21.go ?_ | refine ul21.go ?_
       first | refine tl22.go ?_ | refine ul22.go ?_
       first | refine tl23.go ?_ | refine ul23.go ?_
       first | refine tl24.go ?_ | refine ul24.go ?_
       first | refine tl25.go ?_ | refine ul25.go ?_
       refine al26.ret (HCmp.out _) (fun w2 hb2 hHeld => ?_); (try have HT := tab_keep HT hb2)
       first | refine tl27.go ?_ | refine ul27.go ?_
       refine tl28.go ?_
       refine tl29.go ?_
       first | refine tl30.go ?_ | refine ul30.go ?_
       first | refine tl31.go ?_ | refine ul31.go ?_
       first | refine tl32.go ?_ | refine ul32.go ?_
       first | refine tl33.go ?_ | refine ul33.go ?_
       first | refine tl34.go ?_ | refine ul34.go ?_
       first | refine tl35.go ?_ | refine ul35.go ?_
       first | refine tl36.go ?_ | refine ul36.go ?_
       first | refine tl37.go ?_ | refine ul37.go ?_
       first | refine tl38.go ?_ | refine ul38.go ?_
       first | refine tl39.go ?_ | refine ul39.go ?_
       first | refine tl40.go ?_ | refine ul40.go ?_
       first | refine tl41.go ?_ | refine ul41.go ?_
       first | refine tl42.go ?_ | refine ul42.go ?_
       refine wpAnyL_ready (rs := [43]) Z1x0 (by simp) (al43 (fun K hK => ?_) (AllReadyL.nil))
       focus go_simp
       refine hK.out _ _ (fun h => absurd rfl h) (fun _ => ?_)
       focus (clear hK K; refine Zp1x ?_)
       refine wpAnyL_done Z1x0 ?_ _; rotate_left 1
       go_wp2
       refine ⟨⟨j + 1, some b, hjl, rfl, congrArg (Value.int .i64) EW.out, (fun b hb => by cases hb; omega), HF.out, hHeld.below⟩, ?_⟩
       rw [EW.out]
       simp only [intOf, Int.toNat_natCast]
       exact meas_lt hjl
    ·rw [if_neg (fun h => hB h.2.1)] at hF
     have HF := Lib.hid hF
     have HCmp := Lib.hid (cmp_c fx fy _ rfl)
     have hle := cmpQ_le hB
     generalize cmpQ x y = cc at *
     have HC := Lib.hid (show Cells [(⟨tb, 0, none⟩, .int .i64 vars), (⟨tb, 3, none⟩, .slice (some ⟨gV, 0, none⟩) t.value.length cV), (⟨tb, 4, none⟩, .slice (some ⟨gL, 0, none⟩) t.limits.length cL), (⟨gV, v * 2, none⟩, .int .i64 x.num), (⟨gV, v * 2 + 1, none⟩, .int .i64 x.den), (⟨gL, (v - vars) * 2, none⟩, .int .i64 y.num), (⟨gL, (v - vars) * 2 + 1, none⟩, .int .i64 y.den)] wr from ⟨c0, c3, c4, x0', x1', y0', y1', trivial⟩)
     clear hF c0 c3 c4 x0' x1' y0' y1' hB fx fy
     go_wp2_with fail
     refine wp_region_L 43 (Hd _ w w.heap.size) Z1x0 (⟨Nat.le_refl _, HC.out.keep (Below.refl _ _).drew, HBR.out.drew⟩) (fun hHeld => ?_)
     refine tl0.go ?_
     refine tl1.go ?_
     refine tl2.go ?_
     refine tl3.go ?_
     refine tl4.go ?_
     refine tl5.go ?_
     refine tl6.go ?_
     first | refine tl7.go ?_ | refine ul7.go ?_
     first | refine tl8.go ?_ | refine ul8.go ?_
     first | refine tl9.go ?_ | refine ul9.go ?_
     first | refine tl10.go ?_ | refine ul10.go ?_
     first | refine tl11.go ?_ | refine ul11.go ?_
     first | refine tl12.go ?_ | refine ul12.go ?_
     first | refine tl13.go ?_ | refine ul13.go ?_
     first | refine tl14.go ?_ | refine ul14.go ?_
     first | refine tl15.go ?_ | refine ul15.go ?_
     first | refine tl16.go ?_ | refine ul16.go ?_
     first | refine tl17.go ?_ | refine ul17.go ?_
     first | refine tl18.go ?_ | refine ul18.go ?_
     first | refine tl19.go ?_ | refine ul19.go ?_
     first | refine tl20.go ?_ | refine ul20.go ?_
     first | refine tl21.go ?_ | refine ul21.go ?_
     first | refine tl22.go ?_ | refine ul22.go ?_
     first | refine tl23.go ?_ | refine ul23.go ?_
     first | refine tl24.go ?_ | refine ul24.go ?_
     first | refine tl25.go ?_ | refine ul25.go ?_
     refine al26.ret (HCmp.out _) (fun w2 hb2 hHeld => ?_); (try have HT := tab_keep HT hb2)
     first | refine tl27.go ?_ | refine ul27.go ?_
     refine tl28.go ?_
     refine tl29.go ?_
     first | refine tl30.go ?_ | refine ul30.go ?_
     first | refine tl31.go ?_ | refine ul31.go ?_
     first | refine tl32.go ?_ | refine ul32.go ?_
     first | refine tl33.go ?_ | refine ul33.go ?_
     first | refine tl34.go ?_ | refine ul34.go ?_
     first | refine tl35.go ?_ | refine ul35.go ?_
     first | refine tl36.go ?_ | refine ul36.go ?_
     first | refine tl37.go ?_ | refine ul37.go ?_
     first | refine tl38.go ?_ | refine ul38.go ?_
     first | refine tl39.go ?_ | refine ul39.go ?_
     first | refine tl40.go ?_ | refine ul40.go ?_
     first | refine tl41.go ?_ | refine ul41.go ?_
     first | refine tl42.go ?_ | refine ul42.go ?_
     refine wpAnyL_ready (rs := [43]) Z1x0 (by simp) (al43 (fun K hK => ?_) (AllReadyL.nil))
     focus go_simp
     refine hK.out _ _ (fun h => absurd rfl h) (fun _ => ?_)
     focus (clear hK K; refine Zp1x ?_)
     refine wpAnyL_done Z1x0 ?_ _; rotate_left 1
     go_wp2
     refine ⟨⟨j + 1, o, hjl, rfl, congrArg (Value.int .i64) EW.out, (fun b hb => by have := HO.out b hb; omega), HF.out, hHeld.below⟩, ?_⟩
     rw [EW.out]
     simp only [intOf, Int.toNat_natCast]
     exact meas_lt hjl
   ·rw [if_neg (fun h => hA h.1)] at hF
    have HF := Lib.hid hF
    have eA : ((vars : Int) ≤ (v : Int)) = False := eq_false (by omega)
    have HC := Lib.hid (show Cells [(⟨tb, 0, none⟩, .int .i64 vars)] wr from ⟨c0, trivial⟩)
    clear hF c0 c3 x0' x1' fx fy
    go_wp2_with fail
    refine wp_region_L 43 (Hd _ w w.heap.size) Z1x0 (⟨Nat.le_refl _, HC.out.keep (Below.refl _ _).drew, HBR.out.drew⟩) (fun hHeld => ?_)
    refine tl0.go ?_
    refine tl1.go ?_
    refine tl2.go ?_
    refine tl3.go ?_
    refine tl4.go ?_
    refine tl5.go ?_
    refine tl6.go ?_
    first | refine tl7.go ?_ | refine ul7.go ?_
    first | refine tl8.go ?_ | refine ul8.go ?_
    first | refine tl9.go ?_ | refine ul9.go ?_
    first | refine tl10.go ?_ | refine ul10.go ?_
    first | refine tl11.go ?_ | refine ul11.go ?_
    first | refine tl12.go ?_ | refine ul12.go ?_
    first | refine tl13.go ?_ | refine ul13.go ?_
    first | refine tl14.go ?_ | refine ul14.go ?_
    first | refine tl15.go ?_ | refine ul15.go ?_
    first | refine tl16.go ?_ | refine ul16.go ?_
    first | refine tl17.go ?_ | refine ul17.go ?_
    first | refine tl18.go ?_ | refine ul18.go ?_
    first | refine tl19.go ?_ | refine ul19.go ?_
    first | refine tl20.go ?_ | refine ul20.go ?_
    first | refine tl21.go ?_ | refine ul21.go ?_
    first | refine tl22.go ?_ | refine ul22.go ?_
    first | refine tl23.go ?_ | refine ul23.go ?_
    first | refine tl24.go ?_ | refine ul24.go ?_
    first | refine tl25.go ?_ | refine ul25.go ?_
    refine wpAnyL_ready (rs := [26]) Z1x0 (by simp) (al26 (fun K hK => ?_) (AllReadyL.nil))
    focus go_simp
    refine hK.out _ _ (fun _ => ?_) (fun hHeld => ?_)
    ·exact hHeld
    focus (have hHeld := hHeld (by decide); clear hK K; refine Zp1x ?_)
    first | refine tl27.go ?_ | refine ul27.go ?_
    refine tl28.go ?_
    refine tl29.go ?_
    first | refine tl30.go ?_ | refine ul30.go ?_
    first | refine tl31.go ?_ | refine ul31.go ?_
    first | refine tl32.go ?_ | refine ul32.go ?_
    first | refine tl33.go ?_ | refine ul33.go ?_
    first | refine tl34.go ?_ | refine ul34.go ?_
    first | refine tl35.go ?_ | refine ul35.go ?_
    first | refine tl36.go ?_ | refine ul36.go ?_
    first | refine tl37.go ?_ | refine ul37.go ?_
    first | refine tl38.go ?_ | refine ul38.go ?_
    first | refine tl39.go ?_ | refine ul39.go ?_
    first | refine tl40.go ?_ | refine ul40.go ?_
    first | refine tl41.go ?_ | refine ul41.go ?_
    first | refine tl42.go ?_ | refine ul42.go ?_
    refine wpAnyL_ready (rs := [43]) Z1x0 (by simp) (al43 (fun K hK => ?_) (AllReadyL.nil))
    focus go_simp
    refine hK.out _ _ (fun h => absurd rfl h) (fun _ => ?_)
    focus (clear hK K; refine Zp1x ?_)
    refine wpAnyL_done Z1x0 ?_ _; rotate_left 1
    go_wp2
    refine ⟨⟨j + 1, o, hjl, rfl, congrArg (Value.int .i64) EW.out, (fun b hb => by have := HO.out b hb; omega), HF.out, hHeld.below⟩, ?_⟩
    rw [EW.out]
    simp only [intOf, Int.toNat_natCast]
    exact meas_lt hjl
  ·have hjj : j = t.basic.length := by omega
   subst hjj
   rw [Nat.sub_self, wrongF] at hF
   have HBR := Lib.hid hbr
   clear hbr
   subst hF
   go_wp2
   go_ret
   exact ⟨rfl, HBR.out⟩
end Go.Proofs.YtbpjnkeilhfajaaGreat.Ln
