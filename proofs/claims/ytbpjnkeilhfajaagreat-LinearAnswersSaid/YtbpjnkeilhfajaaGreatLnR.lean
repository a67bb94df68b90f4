import Derived.Test.YtbpjnkeilhfajaaGreatTl
import Derived.Test.YtbpjnkeilhfajaaGreatLnQ
import Derived.Laws.AppendOwn
import Derived.Laws.CopyOwn
import Derived.Lib.SliceRun
import Derived.Lib.Walk
import Derived.Test.YtbpjnkeilhfajaaGreatNumJ
section
/- linear's helps. -/
namespace Go.Proofs
theorem Zp1y {p q : Prop} (hq : q) (h : p = q := by first | (simp only [Act.put, List.setIfInBounds_toArray, List.set_cons_zero, List.set_cons_succ]; done) | (simp only [Act.put, List.setIfInBounds_toArray, List.set_cons_zero, List.set_cons_succ]; rfl) | rfl) : p := Eq.mpr h hq
theorem Z1y0 {p : Prop} (h : p := by simp; have := HBR.out.size; omega) : p := h
theorem Z1y1 {p : Prop} (h : p := by kernel_rfl) : p := h
end Go.Proofs
namespace Go.Proofs.YtbpjnkeilhfajaaGreat.Ln
open Go.RowKit Go.Proofs.YtbpjnkeilhfajaaGreat.Num Go.Proofs.YtbpjnkeilhfajaaGreat.Given Go.Proofs.YtbpjnkeilhfajaaGreat.Lin Go.Proofs.YtbpjnkeilhfajaaGreatW.PrintWords
set_option linter.unusedVariables false
set_option linter.unusedSimpArgs false
theorem num_pos {x : Rat} : 0 < x.num ↔ 0 < x := by rw [Rat.lt_iff]; simp
theorem num_neg {x : Rat} : x.num < 0 ↔ x < 0 := by rw [Rat.lt_iff]; simp
theorem sign_pos {x : Rat} (h : 0 < x) (w : World) : Calls Tryz.prog 88 #[rv x] w fun e w' => e = .returned (.int .i64 1) ∧ Below w.heap.size w w' := by
 have h1 := num_pos.2 h
 have : sg0 x.num = 1 := by unfold sg0; rw [if_neg (by omega), if_pos h1]
 rw [← this]; exact sign_q x w
theorem sign_neg {x : Rat} (h : x < 0) (w : World) : Calls Tryz.prog 88 #[rv x] w fun e w' => e = .returned (.int .i64 (-1)) ∧ Below w.heap.size w w' := by
 have h1 := num_neg.2 h
 have : sg0 x.num = -1 := by unfold sg0; rw [if_pos h1]
 rw [← this]; exact sign_q x w
theorem sign_zero {x : Rat} (h : x = 0) (w : World) : Calls Tryz.prog 88 #[rv x] w fun e w' => e = .returned (.int .i64 0) ∧ Below w.heap.size w w' := by
 subst h
 exact sign_q 0 w
theorem row_open {w : World} {base : Nat} {v : Value} {l : List Rat} (h : RowQ w base v l) : ∃ A c, v = .slice A l.length c ∧ l.length ≤ c := by
 obtain ⟨_, hv⟩ := h
 rcases hv with ⟨h1, h2⟩ | ⟨g, cap, cur, h, _, _, h3, _⟩
 ·exact ⟨none, 0, by rw [h1, h2], by omega⟩
 ·exact ⟨_, _, h, h3⟩
theorem sgne {x : Rat} (h : ¬ 0 < x) (h2 : ¬ x < 0) : x = 0 := by grind
set_option maxHeartbeats 8000000 in
set_option maxRecDepth 100000 in
theorem helps_any (w : World) (base tb vars i : Nat) (t : Tab) (vb vr vv vl : Value) (rs : List Value) (hT : TabAt w base tb vars t vb vr vv vl rs) (hW : WfT vars t) (hi : i < t.rows.length) :
  Calls Tryz.prog 56 #[.pointer (some ⟨tb, 0, none⟩), .int .i64 i] w fun e w' => e = .returned (.int .i64 (atI (helps vars t i))) ∧ Below w.heap.size w w' := by
 obtain ⟨r, hr⟩ : ∃ r, helps vars t i = r := ⟨_, rfl⟩
 rw [hr]
 have hir : i < rs.length := by rw [hT.len]; exact hi
 have hRow := hT.row i hir
 obtain ⟨gR, cR, eR, _, _, q0, _, _⟩ := one_at hT.rows hir
 subst eR
 obtain ⟨rv0, hrv⟩ : ∃ rv0, rs[i] = rv0 := ⟨_, rfl⟩
 rw [hrv] at hRow q0
 obtain ⟨Ar, cr, er, _⟩ := row_open hRow
 have hcl := hW.cl i hi
 have HVL := Lib.hid hW.vl
 have HM := Lib.hid hW.max
 have HT := Lib.hid hT
 have HW := Lib.hid hW
 unfold helps at hr
 have hN := hcl
 obtain ⟨row, hrow⟩ : ∃ row, rdR t.rows i = row := ⟨_, rfl⟩
 have hfr := hW.fr i
 rw [hrow] at hRow hr hcl er hfr
 have HROW := Lib.hid hRow
 have HR := Lib.hid hr
 have HCL := Lib.hid hcl
 have HFR := Lib.hid hfr
 subst er
 have b0 : w.cell? ⟨tb, 0, none⟩ = some (.int .i64 vars) := blk_cell hT.box 0
 have b2 : w.cell? ⟨tb, 2, none⟩ = some (.slice (some ⟨gR, 0, none⟩) rs.length cR) := blk_cell hT.box 2
 clear hT hW hr hN hrow hi hcl hfr hRow hrv
 go_enter Tryz.func56, Tryz.ntmps56
 go_wp2
 go_loopw [16] (fun v16 wr => ∃ j : Nat, j ≤ row.length ∧ v16 = .int .i64 j ∧ helpsF vars t row (row.length - j) j = r ∧ Below w.heap.size w wr) (fun v16 _ => row.length - (intOf v16).toNat)
 case atStart => exact ⟨0, Nat.zero_le _, rfl, HR.out, Below.refl _ _⟩
 case round =>
  obtain ⟨j, hj, rfl, hF, hbr⟩ := hrel
  by_cases hjl : j < row.length
  ·obtain ⟨gr, cr', er, _, _, z0, z1, _⟩ := rowQ_rd HROW.out hjl
   injection er with e1 _ e3
   subst e1
   subst e3
   rw [show row.length - j = (row.length - (j + 1)) + 1 by omega, helpsF] at hF
   have fc := HFR.out j
   have EW := Lib.hid (wrapj (show j + 1 < 9223372036854775808 by have := HCL.out; have := HM.out; omega))
   have HBR := Lib.hid hbr
   have z0' := kcell hbr z0
   have z1' := kcell hbr z1
   have c0 := kcell hbr b0
   obtain ⟨x, hx⟩ : ∃ x, rdQ row j = x := ⟨_, rfl⟩
   rw [hx] at z0' z1' fc
   have HX := Lib.hid hx
   clear hbr z0 z1 hx b0 b2
   by_cases hp : 0 < x
   ·rw [if_pos (show goodQ vars t row j from .inl (by rw [HX.out]; exact hp))] at hF
    have HS := Lib.hid (sign_pos hp)
    obtain rfl : r = some j := hF.symm
    clear hF fc hp
    go_wp2_with fail
    refine (HS.out _).mono ?_
    rintro e w2 ⟨rfl, hb2⟩
    have HB2 := Lib.hid ((show Below w.heap.size w _ from (HBR.out.alloc HBR.out.size _)).trans (hb2.mono Z1y0))
    have hd0 : Hd [(⟨tb, 0, none⟩, .int .i64 vars)] w w.heap.size w2 := ⟨Nat.le_refl _, (show Cells [(⟨tb, 0, none⟩, .int .i64 vars)] wr from ⟨c0, trivial⟩).keep (((Below.refl wr.heap.size wr).alloc (Nat.le_refl _) _).trans (hb2.mono (by simp))), HB2.out⟩
    clear hb2 z0' z1' c0
    go_wp2_with fail
    refine wp_region_L 36 (Hd _ w w.heap.size) Z1y1 (hd0.drew) (fun hHeld => ?_)
    refine tl0.go ?_
    refine tl1.go ?_
    refine tl2.go ?_
    first | refine tl3.go ?_ | refine ul3.go ?_
    first | refine tl4.go ?_ | refine ul4.go ?_
    first | refine tl5.go ?_ | refine ul5.go ?_
    first | refine tl6.go ?_ | refine ul6.go ?_
    first | refine tl7.go ?_ | refine ul7.go ?_
    first | refine tl8.go ?_ | refine ul8.go ?_
    first | refine tl9.go ?_ | refine ul9.go ?_
    first | refine tl10.go ?_ | refine ul10.go ?_
    first | refine tl11.go ?_ | refine ul11.go ?_
    first | refine tl12.go ?_ | refine ul12.go ?_
    first | refine tl13.go ?_ | refine ul13.go ?_
    first | refine tl14.go ?_ | refine ul14.go ?_
    first | refine tl15.go ?_ | refine ul15.go ?_
    first | refine tl16.go ?_ | refine ul16.go ?_
    first | refine tl17.go ?_ | refine ul17.go ?_
    first | refine tl18.go ?_ | refine ul18.go ?_
    first | refine tl19.go ?_ | refine ul19.go ?_
    first | refine tl20.go ?_ | refine ul20.go ?_
    first | refine tl21.go ?_ | refine ul21.go ?_
    first | refine tl22.go ?_ | refine ul22.go ?_
    first | refine tl23.go ?_ | refine ul23.go ?_
    first | refine tl24.go ?_ | refine ul24.go ?_
    first | refine tl25.go ?_ | refine ul25.go ?_
    first | refine tl26.go ?_ | refine ul26.go ?_
    first | refine tl27.go ?_ | refine ul27.go ?_
    first | refine tl28.go ?_ | refine ul28.go ?_
    first | refine tl29.go ?_ | refine ul29.go ?_
    first | refine tl30.go ?_ | refine ul30.go ?_
    first | refine tl31.go ?_ | refine ul31.go ?_
    refine wpAnyL_ready (rs := [32]) Z1y1 (by simp) (al32 (fun K hK => ?_) (AllReadyL.nil))
    focus go_simp
    refine hK.out _ _ (fun _ => ?_) (fun hHeld => ?_)
    ·exact hHeld
    focus (have hHeld := hHeld (by decide); clear hK K; refine Zp1y ?_)
    first | refine tl33.go ?_ | refine ul33.go ?_
    first | refine tl34.go ?_ | refine ul34.go ?_
    first | refine tl35.go ?_ | refine ul35.go ?_
    refine wpAnyL_ready (rs := [36]) Z1y1 (by simp) (al36 (fun K hK => ?_) (AllReadyL.nil))
    focus go_simp
    refine hK.out _ _ (fun h => absurd rfl h) (fun _ => ?_)
    focus (clear hK K; refine Zp1y ?_)
    refine wpAnyL_done Z1y1 ?_ _; rotate_left 1
    go_wp2
    go_ret
    exact ⟨rfl, hHeld.below⟩
   ·by_cases hn : x < 0
    ·have HS := Lib.hid (sign_neg hn)
     by_cases hv : j < vars
     ·rw [if_pos (show goodQ vars t row j from .inr ⟨by rw [HX.out]; exact hn, .inl hv⟩)] at hF
      obtain rfl : r = some j := hF.symm
      have eV : ((j : Int) < (vars : Int)) = True := eq_true (by omega)
      clear hF fc hp hn
      go_wp2_with fail
      refine (HS.out _).mono ?_
      rintro e w2 ⟨rfl, hb2⟩
      have HB2 := Lib.hid ((show Below w.heap.size w _ from (HBR.out.alloc HBR.out.size _)).trans (hb2.mono Z1y0))
      have hd0 : Hd [(⟨tb, 0, none⟩, .int .i64 vars)] w w.heap.size w2 := ⟨Nat.le_refl _, (show Cells [(⟨tb, 0, none⟩, .int .i64 vars)] wr from ⟨c0, trivial⟩).keep (((Below.refl wr.heap.size wr).alloc (Nat.le_refl _) _).trans (hb2.mono (by simp))), HB2.out⟩
      clear hb2 z0' z1' c0
      go_wp2_with fail
      refine wp_region_L 36 (Hd _ w w.heap.size) Z1y1 (hd0.drew) (fun hHeld => ?_)
      refine tl0.go ?_
      refine tl1.go ?_
      refine tl2.go ?_
      first | refine tl3.go ?_ | refine ul3.go ?_
      first | refine tl4.go ?_ | refine ul4.go ?_
      first | refine tl5.go ?_ | refine ul5.go ?_
      first | refine tl6.go ?_ | refine ul6.go ?_
      first | refine tl7.go ?_ | refine ul7.go ?_
      first | refine tl8.go ?_ | refine ul8.go ?_
      first | refine tl9.go ?_ | refine ul9.go ?_
      first | refine tl10.go ?_ | refine ul10.go ?_
      first | refine tl11.go ?_ | refine ul11.go ?_
      first | refine tl12.go ?_ | refine ul12.go ?_
      first | refine tl13.go ?_ | refine ul13.go ?_
      first | refine tl14.go ?_ | refine ul14.go ?_
      first | refine tl15.go ?_ | refine ul15.go ?_
      first | refine tl16.go ?_ | refine ul16.go ?_
      first | refine tl17.go ?_ | refine ul17.go ?_
      first | refine tl18.go ?_ | refine ul18.go ?_
      first | refine tl19.go ?_ | refine ul19.go ?_
      first | refine tl20.go ?_ | refine ul20.go ?_
      first | refine tl21.go ?_ | refine ul21.go ?_
      first | refine tl22.go ?_ | refine ul22.go ?_
      first | refine tl23.go ?_ | refine ul23.go ?_
      first | refine tl24.go ?_ | refine ul24.go ?_
      first | refine tl25.go ?_ | refine ul25.go ?_
      first | refine tl26.go ?_ | refine ul26.go ?_
      first | refine tl27.go ?_ | refine ul27.go ?_
      first | refine tl28.go ?_ | refine ul28.go ?_
      first | refine tl29.go ?_ | refine ul29.go ?_
      first | refine tl30.go ?_ | refine ul30.go ?_
      first | refine tl31.go ?_ | refine ul31.go ?_
      refine wpAnyL_ready (rs := [32]) Z1y1 (by simp) (al32 (fun K hK => ?_) (AllReadyL.nil))
      focus go_simp
      refine hK.out _ _ (fun _ => ?_) (fun hHeld => ?_)
      ·exact hHeld
      focus (have hHeld := hHeld (by decide); clear hK K; refine Zp1y ?_)
      first | refine tl33.go ?_ | refine ul33.go ?_
      first | refine tl34.go ?_ | refine ul34.go ?_
      first | refine tl35.go ?_ | refine ul35.go ?_
      refine wpAnyL_ready (rs := [36]) Z1y1 (by simp) (al36 (fun K hK => ?_) (AllReadyL.nil))
      focus go_simp
      refine hK.out _ _ (fun h => absurd rfl h) (fun _ => ?_)
      focus (clear hK K; refine Zp1y ?_)
      refine wpAnyL_done Z1y1 ?_ _; rotate_left 1
      go_wp2
      go_ret
      exact ⟨rfl, hHeld.below⟩
     ·have eV : ((j : Int) < (vars : Int)) = False := eq_false (by omega)
      have hjv : j < t.value.length := by have := HCL.out; omega
      have h2 : j - vars < t.limits.length := by have := HVL.out; omega
      obtain ⟨gV, cV, eV', _, _, x0, x1, _⟩ := rowQ_rd HT.out.value hjv
      obtain ⟨gL, cL, eL', _, _, y0, y1, _⟩ := rowQ_rd HT.out.limits h2
      have b3 : w.cell? ⟨tb, 3, none⟩ = some (.slice (some ⟨gV, 0, none⟩) t.value.length cV) := by rw [← eV']; exact blk_cell HT.out.box 3
      have b4 : w.cell? ⟨tb, 4, none⟩ = some (.slice (some ⟨gL, 0, none⟩) t.limits.length cL) := by rw [← eL']; exact blk_cell HT.out.box 4
      have fx := HW.out.fv j
      have fy := HW.out.fl (j - vars)
      obtain ⟨a, ha⟩ : ∃ a, rdQ t.value j = a := ⟨_, rfl⟩
      obtain ⟨b, hb⟩ : ∃ b, rdQ t.limits (j - vars) = b := ⟨_, rfl⟩
      rw [ha] at x0 x1 fx
      rw [hb] at y0 y1 fy
      have HA := Lib.hid ha
      have HB := Lib.hid hb
      have ew := wrapsub (show vars ≤ j by omega) (show j < 9223372036854775808 by have := HM.out; omega)
      have ew2 : IntKind.i64.wrap ((j : Int) - (vars : Int)) = ((j - vars : Nat) : Int) := by rw [IntKind.wrap_i64]; unfold wrap64 at ew; exact ew
      have HC := Lib.hid (show Cells [(⟨tb, 0, none⟩, .int .i64 vars), (⟨tb, 3, none⟩, .slice (some ⟨gV, 0, none⟩) t.value.length cV), (⟨tb, 4, none⟩, .slice (some ⟨gL, 0, none⟩) t.limits.length cL), (⟨gV, j * 2, none⟩, .int .i64 a.num), (⟨gV, j * 2 + 1, none⟩, .int .i64 a.den), (⟨gL, (j - vars) * 2, none⟩, .int .i64 b.num), (⟨gL, (j - vars) * 2 + 1, none⟩, .int .i64 b.den)] wr from ⟨c0, kcell HBR.out b3, kcell HBR.out b4, kcell HBR.out x0, kcell HBR.out x1, kcell HBR.out y0, kcell HBR.out y1, trivial⟩)
      clear ha hb x0 x1 y0 y1 b3 b4 eV' eL'
      by_cases hl : a < b
      ·rw [if_pos (show goodQ vars t row j from .inr ⟨by rw [HX.out]; exact hn, .inr (by rw [HA.out, HB.out]; exact hl)⟩)] at hF
       obtain rfl : r = some j := hF.symm
       have HCmp := Lib.hid (cmp_c fx fy (-1) (cmpQ_lt hl))
       clear hF fc hp hn hl fx fy
       go_wp2_with fail
       refine (HS.out _).mono ?_
       rintro e w2 ⟨rfl, hb2⟩
       have HB2 := Lib.hid ((show Below w.heap.size w _ from (HBR.out.alloc HBR.out.size _)).trans (hb2.mono Z1y0))
       have HD0 := Lib.hid (show Hd _ w w.heap.size w2 from ⟨Nat.le_refl _, HC.out.keep (((Below.refl wr.heap.size wr).alloc (Nat.le_refl _) _).trans (hb2.mono (by simp))), HB2.out⟩)
       clear hb2 z0' z1' c0
       go_wp2_with fail
       refine wp_region_L 36 (Hd _ w w.heap.size) Z1y1 (HD0.out.drew) (fun hHeld => ?_)
       refine tl0.go ?_
       refine tl1.go ?_
       refine tl2.go ?_
       first | refine tl3.go ?_ | refine ul3.go ?_
       first | refine tl4.go ?_ | refine ul4.go ?_
       first | refine tl5.go ?_ | refine ul5.go ?_
       first | refine tl6.go ?_ | refine ul6.go ?_
       first | refine tl7.go ?_ | refine ul7.go ?_
       first | refine tl8.go ?_ | refine ul8.go ?_
       first | refine tl9.go ?_ | refine ul9.go ?_
       first | refine tl10.go ?_ | refine ul10.go ?_
       first | refine tl11.go ?_ | refine ul11.go ?_
       first | refine tl12.go ?_ | refine ul12.go ?_
       first | refine tl13.go ?_ | refine ul13.go ?_
       first | refine tl14.go ?_ | refine ul14.go ?_
       first | refine tl15.go ?_ | refine ul15.go ?_
       first | refine tl16.go ?_ | refine ul16.go ?_
       first | refine tl17.go ?_ | refine ul17.go ?_
       first | refine tl18.go ?_ | refine ul18.go ?_
       first | refine tl19.go ?_ | refine ul19.go ?_
       first | refine tl20.go ?_ | refine ul20.go ?_
       first | refine tl21.go ?_ | refine ul21.go ?_
       first | refine tl22.go ?_ | refine ul22.go ?_
       first | refine tl23.go ?_ | refine ul23.go ?_
       first | refine tl24.go ?_ | refine ul24.go ?_
       first | refine tl25.go ?_ | refine ul25.go ?_
       first | refine tl26.go ?_ | refine ul26.go ?_
       first | refine tl27.go ?_ | refine ul27.go ?_
       first | refine tl28.go ?_ | refine ul28.go ?_
       first | refine tl29.go ?_ | refine ul29.go ?_
       first | refine tl30.go ?_ | refine ul30.go ?_
       first | refine tl31.go ?_ | refine ul31.go ?_
       refine al32.ret (HCmp.out _) (fun w2 hb2 hHeld => ?_); (try have HT := tab_keep HT hb2)
       first | refine tl33.go ?_ | refine ul33.go ?_
       first | refine tl34.go ?_ | refine ul34.go ?_
       first | refine tl35.go ?_ | refine ul35.go ?_
       refine wpAnyL_ready (rs := [36]) Z1y1 (by simp) (al36 (fun K hK => ?_) (AllReadyL.nil))
       focus go_simp
       refine hK.out _ _ (fun h => absurd rfl h) (fun _ => ?_)
       focus (clear hK K; refine Zp1y ?_)
       refine wpAnyL_done Z1y1 ?_ _; rotate_left 1
       go_wp2
       go_ret
       exact ⟨rfl, hHeld.below⟩
      ·rw [if_neg (show ¬ goodQ vars t row j by unfold goodQ; rw [HX.out, HA.out, HB.out]; rintro (h | ⟨_, h | h⟩); exact hp h; exact hv h; exact hl h)] at hF
       have HF := Lib.hid hF
       have HCmp := Lib.hid (cmp_c fx fy _ rfl)
       have hle := cmpQ_ge hl
       generalize cmpQ a b = cc at *
       clear hF fc hp hn hl fx fy
       go_wp2_with fail
       refine (HS.out _).mono ?_
       rintro e w2 ⟨rfl, hb2⟩
       have HB2 := Lib.hid ((show Below w.heap.size w _ from (HBR.out.alloc HBR.out.size _)).trans (hb2.mono Z1y0))
       have HD0 := Lib.hid (show Hd _ w w.heap.size w2 from ⟨Nat.le_refl _, HC.out.keep (((Below.refl wr.heap.size wr).alloc (Nat.le_refl _) _).trans (hb2.mono (by simp))), HB2.out⟩)
       clear hb2 z0' z1' c0
       go_wp2_with fail
       refine wp_region_L 36 (Hd _ w w.heap.size) Z1y1 (HD0.out.drew) (fun hHeld => ?_)
       refine tl0.go ?_
       refine tl1.go ?_
       refine tl2.go ?_
       first | refine tl3.go ?_ | refine ul3.go ?_
       first | refine tl4.go ?_ | refine ul4.go ?_
       first | refine tl5.go ?_ | refine ul5.go ?_
       first | refine tl6.go ?_ | refine ul6.go ?_
       first | refine tl7.go ?_ | refine ul7.go ?_
       first | refine tl8.go ?_ | refine ul8.go ?_
       first | refine tl9.go ?_ | refine ul9.go ?_
       first | refine tl10.go ?_ | refine ul10.go ?_
       first | refine tl11.go ?_ | refine ul11.go ?_
       first | refine tl12.go ?_ | refine ul12.go ?_
       first | refine tl13.go ?_ | refine ul13.go ?_
       first | refine tl14.go ?_ | refine ul14.go ?_
       first | refine tl15.go ?_ | refine ul15.go ?_
       first | refine tl16.go ?_ | refine ul16.go ?_
       first | refine tl17.go ?_ | refine ul17.go ?_
       first | refine tl18.go ?_ | refine ul18.go ?_
       first | refine tl19.go ?_ | refine ul19.go ?_
       first | refine tl20.go ?_ | refine ul20.go ?_
       first | refine tl21.go ?_ | refine ul21.go ?_
       first | refine tl22.go ?_ | refine ul22.go ?_
       first | refine tl23.go ?_ | refine ul23.go ?_
       first | refine tl24.go ?_ | refine ul24.go ?_
       first | refine tl25.go ?_ | refine ul25.go ?_
       first | refine tl26.go ?_ | refine ul26.go ?_
       first | refine tl27.go ?_ | refine ul27.go ?_
       first | refine tl28.go ?_ | refine ul28.go ?_
       first | refine tl29.go ?_ | refine ul29.go ?_
       first | refine tl30.go ?_ | refine ul30.go ?_
       first | refine tl31.go ?_ | refine ul31.go ?_
       refine al32.ret (HCmp.out _) (fun w2 hb2 hHeld => ?_); (try have HT := tab_keep HT hb2)
       first | refine tl33.go ?_ | refine ul33.go ?_
       first | refine tl34.go ?_ | refine ul34.go ?_
       first | refine tl35.go ?_ | refine ul35.go ?_
       refine wpAnyL_ready (rs := [36]) Z1y1 (by simp) (al36 (fun K hK => ?_) (AllReadyL.nil))
       focus go_simp
       refine hK.out _ _ (fun h => absurd rfl h) (fun _ => ?_)
       focus (clear hK K; refine Zp1y ?_)
       refine wpAnyL_done Z1y1 ?_ _; rotate_left 1
       go_wp2
       refine ⟨⟨j + 1, hjl, congrArg (Value.int .i64) EW.out, HF.out, hHeld.below⟩, ?_⟩
       rw [EW.out]
       simp only [intOf, Int.toNat_natCast]
       exact meas_lt hjl
    ·rw [if_neg (show ¬ goodQ vars t row j by unfold goodQ; rw [HX.out]; rintro (h | ⟨h, _⟩); exact hp h; exact hn h)] at hF
     have HF := Lib.hid hF
     have HS := Lib.hid (sign_zero (sgne hp hn))
     clear hF fc hp hn
     go_wp2_with fail
     refine (HS.out _).mono ?_
     rintro e w2 ⟨rfl, hb2⟩
     have HB2 := Lib.hid ((show Below w.heap.size w _ from (HBR.out.alloc HBR.out.size _)).trans (hb2.mono Z1y0))
     have hd0 : Hd [(⟨tb, 0, none⟩, .int .i64 vars)] w w.heap.size w2 := ⟨Nat.le_refl _, (show Cells [(⟨tb, 0, none⟩, .int .i64 vars)] wr from ⟨c0, trivial⟩).keep (((Below.refl wr.heap.size wr).alloc (Nat.le_refl _) _).trans (hb2.mono (by simp))), HB2.out⟩
     clear hb2 z0' z1' c0
     go_wp2_with fail
     refine wp_region_L 36 (Hd _ w w.heap.size) Z1y1 (hd0.drew) (fun hHeld => ?_)
     refine tl0.go ?_
     refine tl1.go ?_
     refine tl2.go ?_
     first | refine tl3.go ?_ | refine ul3.go ?_
     first | refine tl4.go ?_ | refine ul4.go ?_
     first | refine tl5.go ?_ | refine ul5.go ?_
     first | refine tl6.go ?_ | refine ul6.go ?_
     first | refine tl7.go ?_ | refine ul7.go ?_
     first | refine tl8.go ?_ | refine ul8.go ?_
     first | refine tl9.go ?_ | refine ul9.go ?_
     first | refine tl10.go ?_ | refine ul10.go ?_
     first | refine tl11.go ?_ | refine ul11.go ?_
     first | refine tl12.go ?_ | refine ul12.go ?_
     first | refine tl13.go ?_ | refine ul13.go ?_
     first | refine tl14.go ?_ | refine ul14.go ?_
     first | refine tl15.go ?_ | refine ul15.go ?_
     first | refine tl16.go ?_ | refine ul16.go ?_
     first | refine tl17.go ?_ | refine ul17.go ?_
     first | refine tl18.go ?_ | refine ul18.go ?_
     first | refine tl19.go ?_ | refine ul19.go ?_
     first | refine tl20.go ?_ | refine ul20.go ?_
     first | refine tl21.go ?_ | refine ul21.go ?_
     first | refine tl22.go ?_ | refine ul22.go ?_
     first | refine tl23.go ?_ | refine ul23.go ?_
     first | refine tl24.go ?_ | refine ul24.go ?_
     first | refine tl25.go ?_ | refine ul25.go ?_
     first | refine tl26.go ?_ | refine ul26.go ?_
     first | refine tl27.go ?_ | refine ul27.go ?_
     first | refine tl28.go ?_ | refine ul28.go ?_
     first | refine tl29.go ?_ | refine ul29.go ?_
     first | refine tl30.go ?_ | refine ul30.go ?_
     first | refine tl31.go ?_ | refine ul31.go ?_
     refine wpAnyL_ready (rs := [32]) Z1y1 (by simp) (al32 (fun K hK => ?_) (AllReadyL.nil))
     focus go_simp
     refine hK.out _ _ (fun _ => ?_) (fun hHeld => ?_)
     ·exact hHeld
     focus (have hHeld := hHeld (by decide); clear hK K; refine Zp1y ?_)
     first | refine tl33.go ?_ | refine ul33.go ?_
     first | refine tl34.go ?_ | refine ul34.go ?_
     first | refine tl35.go ?_ | refine ul35.go ?_
     refine wpAnyL_ready (rs := [36]) Z1y1 (by simp) (al36 (fun K hK => ?_) (AllReadyL.nil))
     focus go_simp
     refine hK.out _ _ (fun h => absurd rfl h) (fun _ => ?_)
     focus (clear hK K; refine Zp1y ?_)
     refine wpAnyL_done Z1y1 ?_ _; rotate_left 1
     go_wp2
     refine ⟨⟨j + 1, hjl, congrArg (Value.int .i64) EW.out, HF.out, hHeld.below⟩, ?_⟩
     rw [EW.out]
     simp only [intOf, Int.toNat_natCast]
     exact meas_lt hjl
  ·have hjj : j = row.length := by omega
   subst hjj
   rw [Nat.sub_self, helpsF] at hF
   have HBR := Lib.hid hbr
   clear hbr
   subst hF
   go_wp2
   go_ret
   exact ⟨rfl, HBR.out⟩
end Go.Proofs.YtbpjnkeilhfajaaGreat.Ln
end

section
/- slices.Clone at rows of rats. -/
namespace Go.Proofs.YtbpjnkeilhfajaaGreat.Ln
open Go.RowKit Go.Proofs.YtbpjnkeilhfajaaGreat.Num Go.Proofs.YtbpjnkeilhfajaaGreat.Given Go.Proofs.YtbpjnkeilhfajaaGreat.Lin Go.Proofs.YtbpjnkeilhfajaaGreatW.PrintWords
set_option linter.unusedVariables false
set_option linter.unusedSimpArgs false
theorem infoQ : (Tryz.prog.info? 28).map (fun i => (i.zero, i.size, i.bytes)) = some (some (.agg #[.int .i64 0, .int .i64 0]), 2, 16) := by kernel_rfl
theorem infoQ' : ∃ i, Tryz.prog.info? 28 = some i ∧ i.zero = some (.agg #[.int .i64 0, .int .i64 0]) ∧ i.size = 2 ∧ i.bytes = 16 := by
 have h := infoQ
 cases hi : Tryz.prog.info? 28 with
 | none => rw [hi] at h; cases h
 | some i =>
  rw [hi] at h
  injection h with h
  injection h with h1 h2
  injection h2 with h2 h3
  exact ⟨i, rfl, h1, h2, h3⟩
theorem flatQ_one : ∀ {l : List Rat} {u : Value}, u ∈ flatQ l → u.oneCell' = true
 | x :: l, u, h => by
  rw [flatQ] at h
  rcases List.mem_cons.1 h with rfl | h
  ·rfl
  ·rcases List.mem_cons.1 h with rfl | h
   ·rfl
   ·exact flatQ_one h
set_option maxHeartbeats 8000000 in
set_option maxRecDepth 100000 in
theorem clone_any (l : List Rat) (b off c : Nat) (w : World) (hn : l.length ≤ 4096) (hc : ∀ j u, (flatQ l)[j]? = some u → w.cell? ⟨b, off + j, none⟩ = some u) :
  Calls Tryz.prog 55 #[.slice (some ⟨b, off, none⟩) l.length c] w fun e w' => ∃ v', e = .returned v' ∧ RowQ w' w.heap.size v' l ∧ Below w.heap.size w w' := by
 obtain ⟨i0, hi, hz0, hz1, hz2⟩ := infoQ'
 have HC := Lib.hid hc
 have HN := Lib.hid hn
 clear hc hn
 have q22 : ∀ (w : World) (a : Option Addr) (n c n' c' : Nat), (binOp .eql 26 (.slice a n c) (.slice none n' c')).run Tryz.prog w = .ok (.bool a.isNone) w := fun w a n c n' c' => Lib.run_eql_slice_nil w _ _ a n c n' c' Tryz.underlying26
 go_enter Tryz.func55, Tryz.ntmps55
 go_wp2_with (at_builtin; refine wpList_append_own _ rfl _ _ 26 rfl w.heap.size 28 i0 (.agg #[.int .i64 0, .int .i64 0]) 2 16 Tryz.underlying26 hi hz0 hz1 hz2 rfl (by decide) _ _ _ rfl (World.ownsRow_made w #[] 0 (Nat.le_refl _) (Nat.zero_le _) (by simp)) ⟨b, off, none⟩ l.length c (flatQ l) rfl ?qc1 ?qc2 ?qc3 ?qc4 ?qc5 ?qc6 ?_)
 case qc1 => exact flatQ_len l
 case qc2 =>
  intro j u hj
  rw [Addr.add_lit]
  exact kcell ((Below.refl _ _).alloc (Nat.le_refl _) _) (HC.out j u hj)
 case qc3 => exact fun u hu => flatQ_one hu
 case qc4 => rw [Nat.zero_add]; have := HN.out; unfold maxLen; omega
 case qc5 => rw [Nat.zero_add]; have := HN.out; omega
 case qc6 => simp
 intro v' w1 hown hgrow hnil
 go_wp2
 go_ret
 refine ⟨v', rfl, by unfold RowQ; simpa using hown, ?_⟩
 exact ((Below.refl _ w).alloc (Nat.le_refl _) _).grown hgrow (by simp) (by intro k hk; simp [Value.ownBlock] at hk; omega)
set_option maxHeartbeats 8000000 in
set_option maxRecDepth 100000 in
theorem clone_nil (w : World) :
  Calls Tryz.prog 55 #[.slice none 0 0] w fun e w' => e = .returned (.slice none 0 0) ∧ w' = w := by
 have q22 : ∀ (w : World) (a : Option Addr) (n c n' c' : Nat), (binOp .eql 26 (.slice a n c) (.slice none n' c')).run Tryz.prog w = .ok (.bool a.isNone) w := fun w a n c n' c' => Lib.run_eql_slice_nil w _ _ a n c n' c' Tryz.underlying26
 go_enter Tryz.func55, Tryz.ntmps55
 go_wp2
 go_ret
 exact ⟨rfl, rfl⟩
end Go.Proofs.YtbpjnkeilhfajaaGreat.Ln
end

section
/- slices.Repeat at a row of one rat, 0. -/
namespace Go.Proofs
theorem Zp24 {p q : Prop} (hq : q) (h : p = q := by first | (simp only [Act.put, List.setIfInBounds_toArray, List.set_cons_zero, List.set_cons_succ]; done) | (simp only [Act.put, List.setIfInBounds_toArray, List.set_cons_zero, List.set_cons_succ]; rfl) | rfl) : p := Eq.mpr h hq
theorem Z240 {p : Prop} (h : p := by decide +kernel) : p := h
theorem Z241 {p : Prop} (h : p := by (intro w_ hSw; skip; go_simp; all_goals (with_reducible rfl); done)) : p := h
end Go.Proofs
namespace Go.Proofs.YtbpjnkeilhfajaaGreat.Ln
open Go.RowKit Go.Proofs.YtbpjnkeilhfajaaGreat.Num Go.Proofs.YtbpjnkeilhfajaaGreat.Given Go.Proofs.YtbpjnkeilhfajaaGreat.Lin Go.Proofs.YtbpjnkeilhfajaaGreatW.PrintWords
set_option linter.unusedVariables false
set_option linter.unusedSimpArgs false
section
variable {P : Program}
theorem run_copy_row2 (w : World) (dT sT ty elem : TypeId) (g o dLen dCap : Nat) (a : Addr) (sLen sCap : Nat) (cur : Array Value) (t : TypeId) (cs : List Value)
  (hu : P.underlying dT = some (.slice elem)) (hs : (P.info? elem).map (·.size) = some 2)
  (hg : w.heap[g]? = some (.cells cur t (0, 0))) (hn : cs.length = Nat.min sLen dLen * 2)
  (hsrc : ∀ j v, cs[j]? = some v → w.cell? (a.add j) = some v) (hfit : o + cs.length ≤ cur.size) (h1 : ∀ v ∈ cs, v.oneCell' = true) :
  (Builtin.copy_ #[dT, sT] ty #[.slice (some ⟨g, o, none⟩) dLen dCap, .slice (some a) sLen sCap]).run P w =
   .ok (goInt (Nat.min sLen dLen)) (w.setRow g (cur.toList.take o ++ cs ++ cur.toList.drop (o + cs.length)).toArray) := by
 have hl := run_loadCells_list (P := P) w a cs hsrc
 have hst := run_storeCells_at P g o t cs 0 cur w hg (by simpa using hfit) h1
 cases hq : P.info? elem with
 | none => simp [hq] at hs
 | some i =>
  have hi : i.size = 2 := by simpa [hq] using hs
  rw [hn] at hl
  simp [Builtin.copy_, run_underlying hu, Builtin.lenOf, Builtin.firstCells, sizeOf, typeInfo, hq, hi, hl, hst]
theorem step_copy2 {ops : Array Oper} {o : Oper} {a : Act} {w : World} {K : Act → World → Prop} {Q : Exit → Act → World → Prop} {E : Prop} (hgd : o.guard = none) (d s : Operand) (dT sT : TypeId)
  (ho : o.op = .call { callee := .builtin .copy, args := #[d, s], argTypes := #[dT, sT] }) (elem : TypeId) (hu : P.underlying dT = some (.slice elem)) (hsz : (P.info? elem).map (·.size) = some 2)
  (ad : Addr) (dLen dCap sLen sCap : Nat) (g off : Nat) (hd : a.eval d = .slice (some ⟨g, off, none⟩) dLen dCap) (hs : a.eval s = .slice (some ad) sLen sCap)
  (cur : List Value) (t : TypeId) (hg : w.heap[g]? = some (.cells cur.toArray t (0, 0))) (cs : List Value) (hn : cs.length = Nat.min sLen dLen * 2)
  (hsrc : ∀ j v, cs[j]? = some v → w.cell? (ad.add j) = some v)
  (hfit : off + cs.length ≤ cur.length) (h1 : ∀ v ∈ cs, v.oneCell' = true) (B : Nat) (w0 : World) (hb : Below B w0 w) (hBg : B ≤ g)
  (h : ∀ w', Hid (w'.heap[g]? = some (.cells (splice cur off cs).toArray t (0, 0))) → Below B w0 w' → K (a.put o.dst (goInt (Nat.min sLen dLen))) w') :
  if Region.wanted o (yielded ops a.tmps) = true then Oper.wp P o a w K Q else E := by
 have hw : Region.wanted o (yielded ops a.tmps) = true := by simp [Region.wanted, hgd]
 rw [if_pos hw]
 have hrun := run_copy_row2 (P := P) w dT sT o.type elem g off dLen dCap ad sLen sCap cur.toArray t cs hu hsz hg hn hsrc (by simpa using hfit) h1
 unfold Oper.wp
 simp [execOp, ho, resolve, invoke, builtin, hd, hs, hrun, Result.andThen]
 exact h _ (show _ = _ by simpa [splice] using setRow_heap w g _ _ t _ hg) (below_setRow hb hBg _)
end
def zrow (n N : Nat) : List Value := flatQ (List.replicate n 0) ++ List.replicate ((N - n) * 2) (.int .i64 0)
theorem zrow_len {n N : Nat} (h : n ≤ N) : (zrow n N).length = N * 2 := by
 unfold zrow
 rw [List.length_append, flatQ_len, List.length_replicate, List.length_replicate]; omega
theorem zrow_splice {n m N : Nat} (h : n + m ≤ N) : splice (zrow n N) (n * 2) (flatQ (List.replicate m 0)) = zrow (n + m) N := by
 unfold splice zrow
 have e1 : (flatQ (List.replicate n (0 : Rat))).length = n * 2 := by rw [flatQ_len, List.length_replicate]
 have e2 : (flatQ (List.replicate m (0 : Rat))).length = m * 2 := by rw [flatQ_len, List.length_replicate]
 rw [List.take_append_of_le_length (by omega), List.take_of_length_le (by omega), e2, List.drop_append, List.drop_of_length_le (by omega), List.nil_append, e1, List.drop_replicate, ← List.append_assoc, ← flatQ_app, List.replicate_append_replicate]
 congr 2
 omega
theorem zrow_get {n N j : Nat} {u : Value} (m : Nat) (hm : m ≤ n) (h : (flatQ (List.replicate m (0 : Rat)))[j]? = some u) : (zrow n N)[j]? = some u := by
 unfold zrow
 have hj : j < (flatQ (List.replicate m (0 : Rat))).length := (List.getElem?_eq_some_iff.1 h).1
 have e : n = m + (n - m) := by omega
 rw [e, ← List.replicate_append_replicate, flatQ_app, List.append_assoc, List.getElem?_append_left hj]
 exact h
theorem made_z (k : Nat) : madeCells #[Value.int .i64 0, .int .i64 0] (k * 2) = (List.replicate (k * 2) (Value.int .i64 0)).toArray := by
 apply Array.ext
 ·simp [size_madeCells]
 ·intro i h1 h2
  have : i % 2 = 0 ∨ i % 2 = 1 := by omega
  rcases this with h | h <;> simp [madeCells, h]
theorem first_copy (gx cx N : Nat) (w1 : World) (h1 : 1 ≤ N) (x0 : w1.cell? ⟨gx, 0, none⟩ = some (.int .i64 0)) (x1 : w1.cell? ⟨gx, 1, none⟩ = some (.int .i64 1)) :
  ∃ w2, (Builtin.copy_ #[26, 26 ] 3 #[.slice (some ⟨w1.heap.size, 0, none⟩) N N, .slice (some ⟨gx, 0, none⟩) 1 cx]).run Tryz.prog (w1.alloc (.cells (madeCells #[.int .i64 0, .int .i64 0] (N * 2)) 28)) = .ok (goInt 1) w2 ∧ w2.heap[w1.heap.size]? = some (.cells (zrow 1 N).toArray 28 (0, 0)) ∧ Below w1.heap.size w1 w2 := by
 have hb : Below w1.heap.size w1 (w1.alloc (.cells (madeCells #[.int .i64 0, .int .i64 0] (N * 2)) 28)) := (Below.refl _ _).alloc (Nat.le_refl _) _
 have hg := blk_new w1 (.cells (madeCells #[.int .i64 0, .int .i64 0] (N * 2)) 28)
 have hinfo : (Tryz.prog.info? 28).map (·.size) = some 2 := by kernel_rfl
 have hm : Nat.min 1 N = 1 := Nat.min_eq_left h1
 have hrun := run_copy_row2 (P := Tryz.prog) _ 26 26 3 28 w1.heap.size 0 N N ⟨gx, 0, none⟩ 1 cx _ 28 (flatQ (List.replicate 1 0)) Tryz.underlying26 hinfo hg (by rw [hm]; rfl) (fun j u hj => by
  rw [Addr.add_lit, Nat.zero_add]
  match j, hj with
  | 0, hj => cases hj; exact kcell hb x0
  | 1, hj => cases hj; exact kcell hb x1
  | j + 2, hj => cases hj) (by rw [size_madeCells]; show 0 + 2 ≤ _; omega) (fun u hu => flatQ_one hu)
 rw [hm] at hrun
 refine ⟨_, hrun, ?_, below_setRow hb (Nat.le_refl _) _⟩
 have e : splice (zrow 0 N) (0 * 2) (flatQ (List.replicate 1 0)) = zrow 1 N := zrow_splice (n := 0) (m := 1) (by omega)
 have e0 : (madeCells #[Value.int .i64 0, .int .i64 0] (N * 2)).toList = zrow 0 N := by rw [made_z]; simp [zrow, flatQ]
 rw [setRow_heap _ _ _ _ _ _ hg, e0, ← e]
 simp [splice]
set_option maxHeartbeats 8000000 in
set_option maxRecDepth 100000 in
theorem repeat_any (N gx cx : Nat) (w : World) (h1 : 1 ≤ N) (hN : N ≤ 4096) (x0 : w.cell? ⟨gx, 0, none⟩ = some (.int .i64 0)) (x1 : w.cell? ⟨gx, 1, none⟩ = some (.int .i64 1)) :
  Calls Tryz.prog 97 #[.slice (some ⟨gx, 0, none⟩) 1 cx, .int .i64 N] w fun e w' => ∃ v', e = .returned v' ∧ RowQ w' w.heap.size v' (List.replicate N 0) ∧ Below w.heap.size w w' := by
 obtain ⟨i0, hi, hz0, hz1, hz2⟩ := infoQ'
 have HM := Lib.hid (fun W => Tryz.bits_Mul 1 N (by omega) (by omega) W)
 have H1 := Lib.hid h1
 have HN := Lib.hid hN
 have e0 : ((N : Int) < 0) = False := eq_false (by omega)
 have ew : IntKind.u64.wrap (N : Int) = (N : Int) := by rw [show (IntKind.u64.wrap (N : Int)) = (N : Int) % 18446744073709551616 from rfl]; omega
 have ew1 : IntKind.i64.wrap (N : Int) = (N : Int) := by rw [IntKind.wrap_i64]; omega
 have em1 : 1 * N / 18446744073709551616 = 0 := by omega
 have em2 : 1 * N % 18446744073709551616 = N := by omega
 rw [em1, em2] at HM
 have e3 : (9223372036854775807 < (N : Int)) = False := eq_false (by omega)
 have hmk := fun W => run_make (P := Tryz.prog) W 26 28 i0 (.agg #[.int .i64 0, .int .i64 0]) Tryz.underlying26 hi hz0 .i64 .i64 (N : Int) (N : Int) (by omega) (by omega) (by rw [hz2]; omega) (by omega)
 rw [Int.toNat_natCast, hz1] at hmk
 clear h1 hN em1 em2
 go_enter Tryz.func97, Tryz.ntmps97
 go_wp2_with fail
 refine (HM.out _).mono ?_
 rintro e w1 ⟨rfl, hw1⟩
 subst hw1
 have hn1 := HN.out
 have h11 := H1.out
 obtain ⟨w2, hcp, hw2, hb2⟩ := first_copy gx cx N w1 h11 x0 x1
 have HW2 := Lib.hid hw2
 have HB2 := Lib.hid hb2
 have z2 := Lib.hid (show w1.heap.size < w2.heap.size from blk_lt hw2)
 clear hw2 hb2 hn1 h11 x0 x1
 go_wp2
 go_loopw [8] (fun v wr => ∃ n : Nat, 1 ≤ n ∧ n ≤ N ∧ v = .int .i64 n ∧ wr.heap[w1.heap.size]? = some (.cells (zrow n N).toArray 28 (0, 0)) ∧ Below w1.heap.size w1 wr) (fun v _ => N - (intOf v).toNat)
 case atStart => exact ⟨1, Nat.le_refl _, H1.out, rfl, HW2.out, HB2.out⟩
 case round =>
  obtain ⟨n, hn1, hnN, rfl, hP, hbr⟩ := hrel
  by_cases hlt : n < N
  ·have HP := Lib.hid hP
   have HBR := Lib.hid hbr
   have HN1 := Lib.hid hn1
   clear hP hbr hn1
   have hinfo : (Tryz.prog.info? 28).map (·.size) = some 2 := by kernel_rfl
   have hmin : Nat.min n (N - n) ≤ n ∧ Nat.min n (N - n) ≤ N - n ∧ 1 ≤ Nat.min n (N - n) := ⟨Nat.min_le_left _ _, Nat.min_le_right _ _, by rw [Nat.le_min]; exact ⟨HN1.out, by omega⟩⟩
   obtain ⟨m, hm⟩ : ∃ m, Nat.min n (N - n) = m := ⟨_, rfl⟩
   rw [hm] at hmin
   have HMIN := Lib.hid hmin
   have HMM := Lib.hid hm
   have ewm : wrap64 ((n : Int) + (m : Int)) = ((n + m : Nat) : Int) := by have := HN.out; unfold wrap64; omega
   have ewm2 : IntKind.i64.wrap ((n : Int) + (m : Int)) = ((n + m : Nat) : Int) := by rw [IntKind.wrap_i64]; unfold wrap64 at ewm; exact ewm
   have hNn : (N = n) = False := eq_false (by omega)
   clear hm hmin
   go_wp2_with fail
   refine wp_region_L 9 (fun _ => True) (by kernel_rfl) (trivial) (fun hHeld => ?_)
   refine tl0 ?_ Z240 (by rfl) (fun _ _ _ => id) ?_ (by assumption) ?_; rotate_left 1; (focus exact Z241); focus try simp only [Act.put, List.setIfInBounds_toArray, List.set_cons_zero, List.set_cons_succ]
   refine tl1 ?_ Z240 (by rfl) (fun _ _ _ => id) ?_ (by assumption) ?_; rotate_left 1; (focus exact Z241); focus try simp only [Act.put, List.setIfInBounds_toArray, List.set_cons_zero, List.set_cons_succ]
   refine tl2 ?_ Z240 (by rfl) (fun _ _ _ => id) ?_ (by assumption) ?_; rotate_left 1; (focus exact Z241); focus try simp only [Act.put, List.setIfInBounds_toArray, List.set_cons_zero, List.set_cons_succ]
   refine tl3 ?_ Z240 (by rfl) (fun _ _ _ => id) ?_ (by assumption) ?_; rotate_left 1; (focus exact Z241); focus try simp only [Act.put, List.setIfInBounds_toArray, List.set_cons_zero, List.set_cons_succ]
   refine tl4 ?_ Z240 (by rfl) (fun _ _ _ => id) ?_ (by assumption) ?_; rotate_left 1; (focus exact Z241); focus try simp only [Act.put, List.setIfInBounds_toArray, List.set_cons_zero, List.set_cons_succ]
   refine tl5 ?_ Z240 (by rfl) (fun _ _ _ => id) ?_ (by assumption) ?_; rotate_left 1; (focus exact Z241); focus try simp only [Act.put, List.setIfInBounds_toArray, List.set_cons_zero, List.set_cons_succ]
   refine tl6 ?_ Z240 (by rfl) (fun _ _ _ => id) ?_ (by assumption) ?_; rotate_left 1; (focus exact Z241); focus try simp only [Act.put, List.setIfInBounds_toArray, List.set_cons_zero, List.set_cons_succ]
   refine wpAnyL_ready (rs := [7]) (by kernel_rfl) (by simp) (al7 (fun K hK => ?_) (AllReadyL.nil))
   focus (refine step_copy2 rfl (.tmp 41) (.tmp 44) _ _ rfl 28 Tryz.underlying26 hinfo _ _ _ _ _ _ _ rfl rfl (zrow n N) 28 HP.out (flatQ (List.replicate m 0)) ?_ ?_ ?_ (fun u hu => flatQ_one hu) w1.heap.size w1 HBR.out.drew (Nat.le_refl _) ?_; rotate_left 3; intro w3 hg3 hb3; rw [HMM.out])
   refine hK.out _ _ (fun _ => ?_) (fun hHeld => ?_)
   ·trivial
   focus (have hHeld := hHeld (by decide); clear hK K; refine Zp24 ?_)
   refine tl8 ?_ Z240 (by rfl) (fun _ _ _ => id) ?_ (by assumption) ?_; rotate_left 1; (focus exact Z241); focus try simp only [Act.put, List.setIfInBounds_toArray, List.set_cons_zero, List.set_cons_succ]
   refine wpAnyL_ready (rs := [9]) (by kernel_rfl) (by simp) (al9 (fun K hK => ?_) (AllReadyL.nil))
   focus go_simp
   refine hK.out _ _ (fun h => absurd rfl h) (fun _ => ?_)
   focus (clear hK K; refine Zp24 ?_)
   refine wpAnyL_done (by kernel_rfl) ?_ _; rotate_left 1
   ·rw [flatQ_len, List.length_replicate, HMM.out]
   ·intro j u hj
    rw [Addr.add_lit, Nat.zero_add]
    have := zrow_get (N := N) m HMIN.out.1 hj
    rw [cell_of_row _ _ _ _ _ _ (show wr.drew.heap[_]? = _ from HP.out)]
    simpa using this
   ·rw [flatQ_len, List.length_replicate, zrow_len hnN]
    have := HMIN.out
    omega
   have HG3 := Lib.hid hg3.out
   rw [zrow_splice (by have := HMIN.out; omega)] at HG3
   go_wp2
   refine ⟨⟨n + m, by have := HN1.out; omega, by have := HMIN.out; omega, rfl, HG3.out, hb3⟩, ?_⟩
   simp only [intOf, Int.toNat_natCast]
   have := HMIN.out
   omega
  ·obtain rfl : n = N := by omega
   have hl := zrow_len (Nat.le_refl n)
   have HP := Lib.hid hP
   have HBR := Lib.hid hbr
   clear hP hbr hn1 hl
   go_wp2
   go_ret
   refine ⟨_, rfl, ⟨by rw [flatQ_len], .inr ⟨w1.heap.size, n, _, by simp, Nat.le_refl _, HP.out, by simp, ?_, ?_, ?_⟩⟩, HBR.out⟩
   ·have := HN.out; unfold maxLen; omega
   ·simp [zrow_len]
   ·rw [List.length_replicate]
    simp only [zrow, Nat.sub_self, Nat.zero_mul, List.replicate_zero, List.append_nil]
    rw [List.take_of_length_le (by rw [flatQ_len, List.length_replicate]; exact Nat.le_refl _)]
end Go.Proofs.YtbpjnkeilhfajaaGreat.Ln
end
