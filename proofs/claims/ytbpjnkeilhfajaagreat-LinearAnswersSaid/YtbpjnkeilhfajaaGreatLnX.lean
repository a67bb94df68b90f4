/- linear's exchange. -/
import Derived.Test.YtbpjnkeilhfajaaGreatTl
import Derived.Test.YtbpjnkeilhfajaaGreatLnV
namespace Go.Proofs
theorem Zp28 {p q : Prop} (hq : q) (h : p = q := by first | (simp only [Act.put, List.setIfInBounds_toArray, List.set_cons_zero, List.set_cons_succ]; done) | (simp only [Act.put, List.setIfInBounds_toArray, List.set_cons_zero, List.set_cons_succ]; rfl) | rfl) : p := Eq.mpr h hq
theorem Z280 {p : Prop} (h : p := by kernel_rfl) : p := h
theorem Z281 {p : Prop} (h : p := by intro w_; go_simp; done) : p := h
theorem Z282 {p : Prop} (h : p := by exact hHeld.keep hb2) : p := h
theorem Z283 {p : Prop} (h : p := by refine (HRoom1.out _ hHeld.below).mono ?_; rintro e w2 ⟨rfl, hb2⟩; exact ⟨rfl, rfl, (HE1.out.keep (hHeld.keep hb2).below).below⟩) : p := h
theorem Z284 {p : Prop} (h : p := by refine (mustR_no _ _ _).mono ?_; rintro e w2 ⟨rfl, hb2⟩; exact ⟨rfl, rfl, (HE1.out.keep (hHeld.keep hb2).below).below⟩) : p := h
theorem Z285 {p : Prop} (h : p := by refine (mustR_no _ _ _).mono ?_; rintro e w2 ⟨rfl, hb2⟩; exact ⟨rfl, rfl, (HE9.out.keep (hHeld.keep hb2).below).below⟩) : p := h
theorem Z286 {p : Prop} (h : p := by refine (mustR_no _ _ _).mono ?_; rintro e w2 ⟨rfl, hb2⟩; exact ⟨rfl, rfl, (HE.out.keep ((HBR.out.trans ((HB9.out.trans ((hHeld.keep hb2).below.mono HB9.out.size)).mono HBR.out.size)))).below⟩) : p := h
theorem Z287 {p : Prop} (h : p := by refine (mustR_no _ _ _).mono ?_; rintro e w2 ⟨rfl, hb2⟩; exact ⟨rfl, rfl, (HEr.out.keep ((HBC.out.trans ((hHeld.keep hb2).below.mono HBC.out.size)))).below⟩) : p := h
end Go.Proofs
namespace Go.Proofs.YtbpjnkeilhfajaaGreat.Ln
open Go.RowKit Go.Proofs.YtbpjnkeilhfajaaGreat.Num Go.Proofs.YtbpjnkeilhfajaaGreat.Given Go.Proofs.YtbpjnkeilhfajaaGreat.Lin Go.Proofs.YtbpjnkeilhfajaaGreatW.PrintWords
set_option linter.unusedVariables false
set_option linter.unusedSimpArgs false
set_option maxHeartbeats 64000000 in
set_option maxRecDepth 100000 in
theorem exchange_any (w : World) (base tb vars a v : Nat) (t : Tab) (vb vr vv vl : Value) (rs : List Value) (hT : TabAt w base tb vars t vb vr vv vl rs) (hbase : base ≤ w.heap.size) (hW : WfT vars t) (ha : a < t.rows.length) (hwas : vars ≤ rdN t.basic a) (hv : v < t.value.length) (hc0 : rdQ (rdR t.rows a) v ≠ 0) :
  Calls Tryz.prog 58 #[.pointer (some ⟨tb, 0, none⟩), .int .i64 a, .int .i64 v] w fun e w' => ExEnd w w' base tb vars (exchange vars t a v) vb vr vv vl rs a e ∧ Below base w w' := by
 obtain ⟨res, hres⟩ : ∃ res, exchange vars t a v = res := ⟨_, rfl⟩
 rw [hres]
 unfold exchange at hres
 have har : a < rs.length := by rw [hT.len]; exact ha
 have hab : a < t.basic.length := by have := hW.bl; have := hW.rl; omega
 obtain ⟨gR, cR, eR, -, -, q0, -, -⟩ := one_at hT.rows har
 obtain ⟨gB, cB, eB, -, -, p0, -, -⟩ := rowN_rd hT.basic hab
 obtain ⟨gV, cV, eV, -, -, -, -, -⟩ := rowQ_rd hT.value hv
 subst eR
 subst eB
 subst eV
 obtain ⟨was, hwase⟩ : ∃ was, rdN t.basic a = was := ⟨_, rfl⟩
 have hwN := hW.bas a hab
 rw [hwase] at p0 hwas hres hwN
 have hlimi : was - vars < t.limits.length := by have := hW.vl; omega
 obtain ⟨gL, cL, eL, -, -, -, -, -⟩ := rowQ_rd hT.limits hlimi
 subst eL
 obtain ⟨rowa, hrowa⟩ : ∃ rowa, rdR t.rows a = rowa := ⟨_, rfl⟩
 have hRa := hT.row a har
 have hcl := hW.cl a ha
 have hfra := hW.fr a
 rw [hrowa] at hRa hcl hfra hc0 hres
 obtain ⟨gA, cA, eA, -, -, a0, a1, -⟩ := rowQ_rd hRa (i := v) (by omega)
 rw [eA] at q0
 obtain ⟨c, hc⟩ : ∃ c, rdQ rowa v = c := ⟨_, rfl⟩
 have hcf := hfra v
 rw [hc] at a0 a1 hcf hc0 hres
 obtain ⟨lim, hlim⟩ : ∃ lim, rdQ t.limits (was - vars) = lim := ⟨_, rfl⟩
 have hlf := hW.fl (was - vars)
 rw [hlim] at hlf hres
 have HA := Lib.hid ha
 have HAR := Lib.hid har
 have HAB := Lib.hid hab
 have HEA := Lib.hid eA
 have HCF := Lib.hid (And.intro hcf hc0)
 have HWW := Lib.hid hW
 have HM := Lib.hid hW.max
 have HLF := Lib.hid hlf
 have HFRA := Lib.hid (And.intro hfra hcl)
 have HRA := Lib.hid hrowa
 have HRES := Lib.hid hres
 have HLIM := Lib.hid hlim
 have HLI := Lib.hid hlimi
 have ew := wrapsub hwas (show was < 9223372036854775808 by have := hW.max; omega)
 have EWAS : Hid (wrap64 ((was : Int) - (vars : Int)) = ((was - vars : Nat) : Int) ∧ IntKind.i64.wrap ((was : Int) - (vars : Int)) = ((was - vars : Nat) : Int)) := Lib.hid ⟨ew, by rw [IntKind.wrap_i64]; unfold wrap64 at ew; exact ew⟩
 have HE0 := Lib.hid (Ex.start hT hbase)
 have HRoom := Lib.hid (fun W (hb : Below w.heap.size w W) => room_any W base tb vars was t _ _ _ _ rs (hT.below hb) hW hwas hwN)
 rw [hlim] at HRoom
 have HC := Lib.hid (show Cells [(⟨tb, 1, none⟩, .slice (some ⟨gB, 0, none⟩) t.basic.length cB), (⟨tb, 2, none⟩, .slice (some ⟨gR, 0, none⟩) rs.length cR), (⟨gB, a, none⟩, .int .i64 (was : Int)), (⟨gR, a, none⟩, .slice (some ⟨gA, 0, none⟩) rowa.length cA), (⟨gA, v * 2, none⟩, .int .i64 c.num), (⟨gA, v * 2 + 1, none⟩, .int .i64 c.den)] w from ⟨blk_cell hT.box 1, blk_cell hT.box 2, p0, q0, a0, a1, trivial⟩)
 have hvr : v < rowa.length := by omega
 have HWAS := Lib.hid hwas
 have HWN := Lib.hid hwN
 clear hT hbase hW hwase eA hrowa hRa hcl hfra hcf hc0 hres hlim hlf p0 q0 a0 a1 hc ew hwas hlimi hwN
 go_enter Tryz.func58, Tryz.ntmps58
 go_wp2_with fail
 refine wp_region_L 19 (Hd _ w w.heap.size) Z280 (⟨Nat.le_refl _, HC.out.keep (Below.refl _ _).drew, (Below.refl _ _).drew⟩) (fun hHeld => ?_)
 refine tl0.go ?_
 refine tl1.go ?_
 refine tl2.go ?_
 refine tl3.go ?_
 refine tl4.go ?_
 refine tl5.go ?_
 refine tl6.go ?_
 refine tl7.go ?_
 refine tl8.go ?_
 refine tl9.go ?_
 refine tl10.go ?_
 refine tl11.go ?_
 refine tl12.go ?_
 refine tl13.go ?_
 refine tl14.go ?_
 refine tl15.go ?_
 refine tl16.go ?_
 refine wpAnyL_ready (rs := [17]) Z280 (by simp) (al17 (fun K hK => ?_) (AllReadyL.nil))
 focus refine al_newh (.cells #[.int .i64 0, .int .i64 0] 28 (0, 0)) Z280 Z281 (fun g_ w2 hg_ hb2 HP => ?_)
 focus have HG_ := Lib.hid (Nat.le_trans hHeld.size (Nat.le_of_eq hg_.out.symm))
 refine hK.out _ _ (fun _ => ?_) (fun hHeld => ?_)
 ·exact Z282
 focus (have hHeld := hHeld (by decide); clear hK K; refine Zp28 ?_)
 refine tl18.go ?_
 refine wpAnyL_ready (rs := [19]) Z280 (by simp) (al19 (fun K hK => ?_) (AllReadyL.nil))
 focus (obtain ⟨s0, s1, sf0, sf1⟩ := box2 HP; go_simp)
 refine hK.out _ _ (fun h => absurd rfl h) (fun _ => ?_)
 focus (clear hK K; refine Zp28 ?_)
 refine wpAnyL_done Z280 ?_ _; rotate_left 1
 have HB7 := Lib.hid (Bx.of_put (w0 := w) (z := c) (ty := 28) HP (by rw [hg_.out]; exact Nat.le_refl _))
 have HE1 := Lib.hid (HE0.out.keep (below_set2 (i := 0) (k := 1) (x := .int .i64 c.num) (y := .int .i64 c.den) hHeld.below (g := g_) (by rw [hg_.out]; exact Nat.le_refl _)))
 have HBB := Lib.hid (below_set2 (i := 0) (k := 1) (x := .int .i64 c.num) (y := .int .i64 c.den) hHeld.below (g := g_) (by rw [hg_.out]; exact Nat.le_refl _))
 generalize (w2.setCell ⟨g_, 0, none⟩ (.int .i64 c.num)).setCell ⟨g_, 1, none⟩ (.int .i64 c.den) = w3 at HB7 HE1 HBB ⊢
 clear hg_ HG_ hb2 HP hHeld HC s0 s1 sf0 sf1
 obtain ⟨g7, hg7⟩ : ∃ g7, g_ = g7 := ⟨_, rfl⟩
 subst hg7
 have HRoom1 := Lib.hid (fun W (hb : Below w3.heap.size w3 W) => HRoom.out W (HBB.out.trans (hb.mono HBB.out.size)))
 have HC7 := Lib.hid (show Cells [(⟨g_, 0, none⟩, .int .i64 c.num), (⟨g_, 1, none⟩, .int .i64 c.den)] w3 from ⟨HB7.out.cells.1, HB7.out.cells.2, trivial⟩)
 have hX := HRES.out
 cases hq1 : okQ (lim - rdQ t.value was) with
 | none =>
  rw [hq1, Option.bind_none] at hX
  subst hX
  rw [hq1] at HRoom1
  clear hq1
  go_wp2_with fail
  refine wp_region_L 9 (Hd _ w3 w3.heap.size) Z280 (⟨Nat.le_refl _, HC7.out.keep (Below.refl _ _).drew, (Below.refl _ _).drew⟩) (fun hHeld => ?_)
  refine tl0.go ?_
  refine tl1.go ?_
  refine tl3.go ?_
  refine wpAnyL_ready (rs := [2, 8]) Z280 (by simp) (al2 (fun K hK => ?_) (al8 (fun K hK => ?_) (AllReadyL.nil)))
  focus go_simp
  ·exact Z283
  focus refine al_newh (.cells #[.int .i64 0, .int .i64 0] 28 (0, 0)) Z280 Z281 (fun g_ w2 hg_ hb2 HP => ?_)
  focus have HG_ := Lib.hid (Nat.le_trans hHeld.size (Nat.le_of_eq hg_.out.symm))
  refine hK.out _ _ (fun _ => ?_) (fun hHeld => ?_)
  ·exact Z282
  focus (have hHeld := hHeld (by decide); clear hK K; refine Zp28 ?_)
  refine wpAnyL_ready (rs := [2]) Z280 (by simp) (al2 (fun K hK => ?_) (AllReadyL.nil))
  focus go_simp
  ·exact Z283
 | some r =>
  obtain ⟨hr1, hrf⟩ := okQ_some hq1
  rw [hq1, Option.bind_some] at hX
  rw [hq1] at HRoom1
  cases hq2 : okQ (r / c) with
  | none =>
   rw [hq2, Option.bind_none] at hX
   subst hX
   have HOV := Lib.hid (fun W => over_no hrf HCF.out.1 HCF.out.2 (fun hf => by rw [okQ_fit hf] at hq2; cases hq2) W)
   clear hq1 hq2 hr1 hrf
   go_wp2_with fail
   refine wp_region_L 9 (Hd _ w3 w3.heap.size) Z280 (⟨Nat.le_refl _, HC7.out.keep (Below.refl _ _).drew, (Below.refl _ _).drew⟩) (fun hHeld => ?_)
   refine tl0.go ?_
   refine tl1.go ?_
   refine tl3.go ?_
   refine wpAnyL_ready (rs := [2, 8]) Z280 (by simp) (al2 (fun K hK => ?_) (al8 (fun K hK => ?_) (AllReadyL.nil)))
   focus go_simp
   focus (refine (HRoom1.out _ hHeld.below).mono ?_; rintro e w2 ⟨rfl, hb2⟩; (try have HP := hp_keep HP hb2))
   focus try simp only []
   refine hK.out _ _ (fun _ => ?_) (fun hHeld => ?_)
   ·exact Z282
   focus (have hHeld := hHeld (by decide); clear hK K; refine Zp28 ?_)
   refine wpAnyL_ready (rs := [4, 8]) Z280 (by simp) (al4 (fun K hK => ?_) (al8 (fun K hK => ?_) (AllReadyL.nil)))
   focus go_simp
   focus (refine (HOV.out _).mono ?_; rintro e w2 ⟨rfl, hb2⟩; (try have HP := hp_keep HP hb2))
   focus try simp only []
   refine hK.out _ _ (fun _ => ?_) (fun hHeld => ?_)
   ·exact Z282
   focus (have hHeld := hHeld (by decide); clear hK K; refine Zp28 ?_)
   refine tl5.go ?_
   refine tl6.go ?_
   refine wpAnyL_ready (rs := [7, 8]) Z280 (by simp) (al7 (fun K hK => ?_) (al8 (fun K hK => ?_) (AllReadyL.nil)))
   focus go_simp
   ·exact Z284
   focus refine al_newh (.cells #[.int .i64 0, .int .i64 0] 28 (0, 0)) Z280 Z281 (fun g_ w2 hg_ hb2 HP => ?_)
   focus have HG_ := Lib.hid (Nat.le_trans hHeld.size (Nat.le_of_eq hg_.out.symm))
   refine hK.out _ _ (fun _ => ?_) (fun hHeld => ?_)
   ·exact Z282
   focus (have hHeld := hHeld (by decide); clear hK K; refine Zp28 ?_)
   refine wpAnyL_ready (rs := [7]) Z280 (by simp) (al7 (fun K hK => ?_) (AllReadyL.nil))
   focus go_simp
   ·exact Z284
   focus refine al_newh (.cells #[.int .i64 0, .int .i64 0] 28 (0, 0)) Z280 Z281 (fun g_ w2 hg_ hb2 HP => ?_)
   focus have HG_ := Lib.hid (Nat.le_trans hHeld.size (Nat.le_of_eq hg_.out.symm))
   refine hK.out _ _ (fun _ => ?_) (fun hHeld => ?_)
   ·exact Z282
   focus (have hHeld := hHeld (by decide); clear hK K; refine Zp28 ?_)
   refine al4.ret (HOV.out _) (fun w2 hb2 hHeld => ?_); (try have HP := hp_keep HP hb2)
   refine tl5.go ?_
   refine tl6.go ?_
   refine wpAnyL_ready (rs := [7]) Z280 (by simp) (al7 (fun K hK => ?_) (AllReadyL.nil))
   focus go_simp
   ·exact Z284
   focus refine al_newh (.cells #[.int .i64 0, .int .i64 0] 28 (0, 0)) Z280 Z281 (fun g_ w2 hg_ hb2 HP => ?_)
   focus have HG_ := Lib.hid (Nat.le_trans hHeld.size (Nat.le_of_eq hg_.out.symm))
   refine hK.out _ _ (fun _ => ?_) (fun hHeld => ?_)
   ·exact Z282
   focus (have hHeld := hHeld (by decide); clear hK K; refine Zp28 ?_)
   refine al2.ret (HRoom1.out _ hHeld.below) (fun w2 hb2 hHeld => ?_); (try have HP := hp_keep HP hb2)
   refine al4.ret (HOV.out _) (fun w2 hb2 hHeld => ?_); (try have HP := hp_keep HP hb2)
   refine tl5.go ?_
   refine tl6.go ?_
   refine wpAnyL_ready (rs := [7]) Z280 (by simp) (al7 (fun K hK => ?_) (AllReadyL.nil))
   focus go_simp
   ·exact Z284
  | some by_ =>
   obtain ⟨hb1, hbf⟩ := okQ_some hq2
   rw [hq2, Option.bind_some] at hX
   have HOV := Lib.hid (fun W => over_ok hrf HCF.out.1 HCF.out.2 (by rw [← hb1]; exact hbf) W)
   rw [← hb1] at HOV
   have HBF := Lib.hid hbf
   have HX := Lib.hid hX
   clear hq1 hq2 hr1 hrf hb1 hbf hX
   go_wp2_with fail
   apply share (fun g w5 => Bx w3 w5 g by_ ∧ Below w3.heap.size w3 w5)
   ·intro hΦ
    have HΦ := Lib.hid hΦ
    clear hΦ
    refine wp_region_L 9 (Hd _ w3 w3.heap.size) Z280 (⟨Nat.le_refl _, HC7.out.keep (Below.refl _ _).drew, (Below.refl _ _).drew⟩) (fun hHeld => ?_)
    refine tl0.go ?_
    refine tl1.go ?_
    refine tl3.go ?_
    refine wpAnyL_ready (rs := [2, 8]) Z280 (by simp) (al2 (fun K hK => ?_) (al8 (fun K hK => ?_) (AllReadyL.nil)))
    focus go_simp
    focus (refine (HRoom1.out _ hHeld.below).mono ?_; rintro e w2 ⟨rfl, hb2⟩; (try have HP := hp_keep HP hb2))
    focus try simp only []
    refine hK.out _ _ (fun _ => ?_) (fun hHeld => ?_)
    ·exact Z282
    focus (have hHeld := hHeld (by decide); clear hK K; refine Zp28 ?_)
    refine wpAnyL_ready (rs := [4, 8]) Z280 (by simp) (al4 (fun K hK => ?_) (al8 (fun K hK => ?_) (AllReadyL.nil)))
    focus go_simp
    focus (refine (HOV.out _).mono ?_; rintro e w2 ⟨rfl, hb2⟩; (try have HP := hp_keep HP hb2))
    focus try simp only []
    refine hK.out _ _ (fun _ => ?_) (fun hHeld => ?_)
    ·exact Z282
    focus (have hHeld := hHeld (by decide); clear hK K; refine Zp28 ?_)
    refine tl5.go ?_
    refine tl6.go ?_
    refine wpAnyL_ready (rs := [7, 8]) Z280 (by simp) (al7 (fun K hK => ?_) (al8 (fun K hK => ?_) (AllReadyL.nil)))
    focus go_simp
    focus (refine (mustq_ok _ _).mono ?_; rintro e w2 ⟨rfl, hb2⟩; (try have HP := hp_keep HP hb2))
    focus try simp only []
    refine hK.out _ _ (fun _ => ?_) (fun hHeld => ?_)
    ·exact Z282
    focus (have hHeld := hHeld (by decide); clear hK K; refine Zp28 ?_)
    refine wpAnyL_ready (rs := [8]) Z280 (by simp) (al8 (fun K hK => ?_) (AllReadyL.nil))
    focus refine al_newh (.cells #[.int .i64 0, .int .i64 0] 28 (0, 0)) Z280 Z281 (fun g_ w2 hg_ hb2 HP => ?_)
    focus have HG_ := Lib.hid (Nat.le_trans hHeld.size (Nat.le_of_eq hg_.out.symm))
    refine hK.out _ _ (fun _ => ?_) (fun hHeld => ?_)
    ·exact Z282
    focus (have hHeld := hHeld (by decide); clear hK K; refine Zp28 ?_)
    refine wpAnyL_ready (rs := [9]) Z280 (by simp) (al9 (fun K hK => ?_) (AllReadyL.nil))
    focus (obtain ⟨s0, s1, sf0, sf1⟩ := box2 HP; go_simp)
    refine hK.out _ _ (fun h => absurd rfl h) (fun _ => ?_)
    focus (clear hK K; refine Zp28 ?_)
    refine wpAnyL_done Z280 ?_ _; rotate_left 1
    focus refine al_newh (.cells #[.int .i64 0, .int .i64 0] 28 (0, 0)) Z280 Z281 (fun g_ w2 hg_ hb2 HP => ?_)
    focus have HG_ := Lib.hid (Nat.le_trans hHeld.size (Nat.le_of_eq hg_.out.symm))
    refine hK.out _ _ (fun _ => ?_) (fun hHeld => ?_)
    ·exact Z282
    focus (have hHeld := hHeld (by decide); clear hK K; refine Zp28 ?_)
    refine al7.ret (mustq_ok _ _) (fun w2 hb2 hHeld => ?_); (try have HP := hp_keep HP hb2)
    refine wpAnyL_ready (rs := [9]) Z280 (by simp) (al9 (fun K hK => ?_) (AllReadyL.nil))
    focus (obtain ⟨s0, s1, sf0, sf1⟩ := box2 HP; go_simp)
    refine hK.out _ _ (fun h => absurd rfl h) (fun _ => ?_)
    focus (clear hK K; refine Zp28 ?_)
    refine wpAnyL_done Z280 ?_ _; rotate_left 1
    focus refine al_newh (.cells #[.int .i64 0, .int .i64 0] 28 (0, 0)) Z280 Z281 (fun g_ w2 hg_ hb2 HP => ?_)
    focus have HG_ := Lib.hid (Nat.le_trans hHeld.size (Nat.le_of_eq hg_.out.symm))
    refine hK.out _ _ (fun _ => ?_) (fun hHeld => ?_)
    ·exact Z282
    focus (have hHeld := hHeld (by decide); clear hK K; refine Zp28 ?_)
    refine al4.ret (HOV.out _) (fun w2 hb2 hHeld => ?_); (try have HP := hp_keep HP hb2)
    refine tl5.go ?_
    refine tl6.go ?_
    refine al7.ret (mustq_ok _ _) (fun w2 hb2 hHeld => ?_); (try have HP := hp_keep HP hb2)
    refine wpAnyL_ready (rs := [9]) Z280 (by simp) (al9 (fun K hK => ?_) (AllReadyL.nil))
    focus (obtain ⟨s0, s1, sf0, sf1⟩ := box2 HP; go_simp)
    refine hK.out _ _ (fun h => absurd rfl h) (fun _ => ?_)
    focus (clear hK K; refine Zp28 ?_)
    refine wpAnyL_done Z280 ?_ _; rotate_left 1
    focus refine al_newh (.cells #[.int .i64 0, .int .i64 0] 28 (0, 0)) Z280 Z281 (fun g_ w2 hg_ hb2 HP => ?_)
    focus have HG_ := Lib.hid (Nat.le_trans hHeld.size (Nat.le_of_eq hg_.out.symm))
    refine hK.out _ _ (fun _ => ?_) (fun hHeld => ?_)
    ·exact Z282
    focus (have hHeld := hHeld (by decide); clear hK K; refine Zp28 ?_)
    refine al2.ret (HRoom1.out _ hHeld.below) (fun w2 hb2 hHeld => ?_); (try have HP := hp_keep HP hb2)
    refine al4.ret (HOV.out _) (fun w2 hb2 hHeld => ?_); (try have HP := hp_keep HP hb2)
    refine tl5.go ?_
    refine tl6.go ?_
    refine al7.ret (mustq_ok _ _) (fun w2 hb2 hHeld => ?_); (try have HP := hp_keep HP hb2)
    refine wpAnyL_ready (rs := [9]) Z280 (by simp) (al9 (fun K hK => ?_) (AllReadyL.nil))
    focus (obtain ⟨s0, s1, sf0, sf1⟩ := box2 HP; go_simp)
    refine hK.out _ _ (fun h => absurd rfl h) (fun _ => ?_)
    focus (clear hK K; refine Zp28 ?_)
    refine wpAnyL_done Z280 ?_ _; rotate_left 1
    all_goals
     have HBX := Lib.hid (Bx.of_put (w0 := w3) (z := by_) (ty := 28) HP HG_.out)
     have HBL := Lib.hid (below_set2 (i := 0) (k := 1) (x := .int .i64 by_.num) (y := .int .i64 by_.den) hHeld.below HG_.out)
     generalize (w2.setCell ⟨g_, 0, none⟩ (.int .i64 by_.num)).setCell ⟨g_, 1, none⟩ (.int .i64 by_.den) = w5 at HBX HBL ⊢
     exact HΦ.out g_ w5 ⟨HBX.out, HBL.out⟩
   ·intro g8 w5 hf
    have HB8 := Lib.hid (show Bx w w5 g8 by_ from ⟨hf.1.1, Nat.le_trans HBB.out.size hf.1.2⟩)
    have HB7' := Lib.hid (HB7.out.keep hf.2)
    have HE5 := Lib.hid (HE1.out.keep hf.2)
    have HGV := Lib.hid (HE1.out.old1 gV rfl)
    have HNN := Lib.hid (show t.rows.length = rs.length from HE1.out.tab.len.symm)
    clear hf HB7 HE1 HC7 HRoom HRoom1 HOV HBB HE0
    have hwN := HWN.out
    have hli := HLI.out
    obtain ⟨ew, ew2⟩ := EWAS.out
    have HC5 := Lib.hid (show Cells [(⟨tb, 0, none⟩, .int .i64 vars), (⟨tb, 3, none⟩, .slice (some ⟨gV, 0, none⟩) t.value.length cV), (⟨tb, 4, none⟩, .slice (some ⟨gL, 0, none⟩) t.limits.length cL), (⟨gL, (was - vars) * 2, none⟩, .int .i64 lim.num), (⟨gL, (was - vars) * 2 + 1, none⟩, .int .i64 lim.den)] w5 from by
     obtain ⟨l0, l1, _⟩ := rowQ_in HE5.out.tab.limits hli
     rw [HLIM.out] at l0 l1
     exact ⟨blk_cell HE5.out.tab.box 0, blk_cell HE5.out.tab.box 3, blk_cell HE5.out.tab.box 4, l0, l1, trivial⟩)
    go_wp2_with fail
    refine wp_region_L 18 (Hd _ w5 w5.heap.size) Z280 (⟨Nat.le_refl _, HC5.out.keep (Below.refl _ _).drew, (Below.refl _ _).drew⟩) (fun hHeld => ?_)
    refine tl0.go ?_
    refine tl1.go ?_
    refine tl2.go ?_
    refine tl3.go ?_
    refine tl4.go ?_
    refine tl5.go ?_
    refine tl6.go ?_
    refine tl7.go ?_
    refine tl8.go ?_
    refine tl9.go ?_
    refine tl10.go ?_
    refine tl11.go ?_
    refine tl12.go ?_
    refine tl13.go ?_
    refine tl14.go ?_
    refine tl15.go ?_
    refine tl16.go ?_
    refine tl17.go ?_
    refine wpAnyL_ready (rs := [18]) Z280 (by simp) (al18 (fun K hK => ?_) (AllReadyL.nil))
    focus (obtain ⟨p_, q_, s0, s1, sf0, sf1⟩ := rowQ_st HE5.out.tab.value hwN; go_simp)
    refine hK.out _ _ (fun h => absurd rfl h) (fun _ => ?_)
    focus (clear hK K; refine Zp28 ?_)
    refine wpAnyL_done Z280 ?_ _; rotate_left 1
    have HE6 := Lib.hid ((HE5.out.setV hwN lim).keep (Below.refl _ _).drew)
    have HB86 := Lib.hid ((HB8.out.set (i := was * 2) (k := was * 2 + 1) HGV.out (.int .i64 lim.num) (.int .i64 lim.den)).keep (Below.refl _ _).drew)
    have HB76 := Lib.hid ((HB7'.out.set (i := was * 2) (k := was * 2 + 1) HGV.out (.int .i64 lim.num) (.int .i64 lim.den)).keep (Below.refl _ _).drew)
    generalize ((w5.setCell ⟨gV, was * 2, none⟩ (.int .i64 lim.num)).setCell ⟨gV, was * 2 + 1, none⟩ (.int .i64 lim.den)).drew = w6 at HE6 HB86 HB76 ⊢
    clear s0 s1 sf0 sf1 HC5 hHeld ew ew2 HE5 HB8 HB7' hwN hli
    obtain ⟨x1, hx1⟩ : ∃ x1, rdQ (t.value.set was lim) v = x1 := ⟨_, rfl⟩
    have hfv1 := fit_set HWW.out.fv was HLF.out
    have hx1f := hfv1 v
    have hX := HX.out
    rw [hx1] at hX hx1f
    have hv1 : v < (t.value.set was lim).length := by rw [List.length_set]; exact hv
    have hlen1 : (t.value.set was lim).length = t.value.length := List.length_set
    have HC6 := Lib.hid (show Cells [(⟨tb, 3, none⟩, .slice (some ⟨gV, 0, none⟩) t.value.length cV), (⟨gV, v * 2, none⟩, .int .i64 x1.num), (⟨gV, v * 2 + 1, none⟩, .int .i64 x1.den), (⟨g8, 0, none⟩, .int .i64 by_.num), (⟨g8, 1, none⟩, .int .i64 by_.den)] w6 from by
     obtain ⟨l0, l1, _⟩ := rowQ_in HE6.out.tab.value hv1
     rw [hx1] at l0 l1
     exact ⟨blk_cell HE6.out.tab.box 3, l0, l1, HB86.out.cells.1, HB86.out.cells.2, trivial⟩)
    have HV1 := Lib.hid hv1
    have HL1 := Lib.hid hlen1
    have HFV1 := Lib.hid hfv1
    clear hv1 hlen1 hfv1 hx1
    cases hq3 : okQ (x1 + by_) with
    | none =>
     rw [hq3, Option.bind_none] at hX
     subst hX
     have HPL := Lib.hid (fun W => plus_no hx1f HBF.out (fun hf => by rw [okQ_fit hf] at hq3; cases hq3) W)
     clear hq3 hx1f
     go_wp2_with fail
     refine wp_region_L 18 (Hd _ w6 w6.heap.size) Z280 (⟨Nat.le_refl _, HC6.out.keep (Below.refl _ _).drew, (Below.refl _ _).drew⟩) (fun hHeld => ?_)
     refine tl0.go ?_
     refine tl1.go ?_
     refine tl2.go ?_
     refine tl3.go ?_
     refine tl4.go ?_
     refine tl5.go ?_
     refine tl6.go ?_
     refine tl7.go ?_
     refine tl8.go ?_
     refine tl9.go ?_
     refine tl10.go ?_
     refine tl11.go ?_
     refine tl12.go ?_
     refine al13.ret (HPL.out _) (fun w2 hb2 hHeld => ?_); (try have HP := hp_keep HP hb2)
     refine tl14.go ?_
     refine tl15.go ?_
     refine wpAnyL_ready (rs := [16]) Z280 (by simp) (al16 (fun K hK => ?_) (AllReadyL.nil))
     focus go_simp
     ·refine (mustR_no _ _ _).mono ?_; rintro e w2 ⟨rfl, hb2⟩; exact ⟨rfl, rfl, (HE6.out.keep (hHeld.keep hb2).below).below⟩
    | some x =>
     obtain ⟨hxe, hxf⟩ := okQ_some hq3
     rw [hq3, Option.bind_some] at hX
     have HPL := Lib.hid (fun W => plus_ok hx1f HBF.out (by rw [← hxe]; exact hxf) W)
     rw [← hxe] at HPL
     have HXF := Lib.hid hxf
     have HX := Lib.hid hX
     clear hq3 hx1f hxe hxf hX
     go_wp2_with fail
     refine wp_region_L 18 (Hd _ w6 w6.heap.size) Z280 (⟨Nat.le_refl _, HC6.out.keep (Below.refl _ _).drew, (Below.refl _ _).drew⟩) (fun hHeld => ?_)
     refine tl0.go ?_
     refine tl1.go ?_
     refine tl2.go ?_
     refine tl3.go ?_
     refine tl4.go ?_
     refine tl5.go ?_
     refine tl6.go ?_
     refine tl7.go ?_
     refine tl8.go ?_
     refine tl9.go ?_
     refine tl10.go ?_
     refine tl11.go ?_
     refine tl12.go ?_
     refine al13.ret (HPL.out _) (fun w2 hb2 hHeld => ?_); (try have HP := hp_keep HP hb2)
     refine tl14.go ?_
     refine tl15.go ?_
     refine al16.ret (mustq_ok _ _) (fun w2 hb2 hHeld => ?_); (try have HP := hp_keep HP hb2)
     refine tl17.go ?_
     refine wpAnyL_ready (rs := [18]) Z280 (by simp) (al18 (fun K hK => ?_) (AllReadyL.nil))
     focus (obtain ⟨p_, q_, s0, s1, sf0, sf1⟩ := rowQ_st (HE6.out.keep hHeld.below).tab.value HV1.out; go_simp)
     refine hK.out _ _ (fun h => absurd rfl h) (fun _ => ?_)
     focus (clear hK K; refine Zp28 ?_)
     refine wpAnyL_done Z280 ?_ _; rotate_left 1
     have HE7 := Lib.hid ((HE6.out.keep hHeld.below).setV HV1.out x)
     have HB87 := Lib.hid ((HB86.out.keep hHeld.below).set (i := v * 2) (k := v * 2 + 1) HGV.out (.int .i64 x.num) (.int .i64 x.den))
     have HB77 := Lib.hid ((HB76.out.keep hHeld.below).set (i := v * 2) (k := v * 2 + 1) HGV.out (.int .i64 x.num) (.int .i64 x.den))
     generalize (w2.setCell ⟨gV, v * 2, none⟩ (.int .i64 x.num)).setCell ⟨gV, v * 2 + 1, none⟩ (.int .i64 x.den) = w7 at HE7 HB87 HB77 ⊢
     clear s0 s1 sf0 sf1 HC6 hHeld HE6 HB86 HB76 hb2 HPL
     have HVL2 := Lib.hid (show ((t.value.set was lim).set v x).length = t.value.length by rw [List.length_set]; exact HL1.out)
     have HVF2 := Lib.hid (fit_set HFV1.out v HXF.out)
     generalize (t.value.set was lim).set v x = val2 at HE7 HX HVL2 HVF2
     clear HV1 HL1 HFV1 HXF
     obtain ⟨rU, hrU⟩ : ∃ rU, upd t v a by_ t.rows.length 0 val2 = rU := ⟨_, rfl⟩
     have hX := HX.out
     rw [hrU] at hX
     have HX := Lib.hid hX
     have HRU := Lib.hid hrU
     have HR7 := Lib.hid (show w7.cell? ⟨tb, 2, none⟩ = some (.slice (some ⟨gR, 0, none⟩) rs.length cR) from blk_cell HE7.out.tab.box 2)
     have k2 := HR7.out
     clear hX hrU
     go_wp2
     go_loopw [86] (fun v86 wr => ∃ (j : Nat) (val : List Rat), j ≤ rs.length ∧ v86 = .int .i64 j ∧ upd t v a by_ (rs.length - j) j val = rU ∧ val.length = t.value.length ∧ (∀ k, Fit (rdQ val k)) ∧ Ex w wr base tb vars { t with value := val } (.slice (some ⟨gB, 0, none⟩) t.basic.length cB) (.slice (some ⟨gR, 0, none⟩) rs.length cR) (.slice (some ⟨gV, 0, none⟩) t.value.length cV) (.slice (some ⟨gL, 0, none⟩) t.limits.length cL) rs ∧ Bx w wr g_ c ∧ Bx w wr g8 by_) (fun v86 _ => rs.length - (intOf v86).toNat)
     case atStart => exact ⟨0, val2, Nat.zero_le _, rfl, by rw [Nat.sub_zero, ← HNN.out]; exact HRU.out, HVL2.out, HVF2.out, HE7.out, HB77.out, HB87.out⟩
     case round =>
      obtain ⟨j, val, hj, rfl, hU, hvl, hvf, hE, h7, h8⟩ := hrel
      by_cases hjl : j < rs.length
      ·have hjr : j < t.rows.length := by rw [HNN.out]; exact hjl
       have hjb : j < t.basic.length := by have := HWW.out.bl; have := HWW.out.rl; omega
       have hcj := HWW.out.cl j hjr
       obtain ⟨gj, cj, ej, -, -, y0, y1, -⟩ := rowQ_rd (hE.tab.row j hjl) (i := v) (by show v < (rdR t.rows j).length; omega)
       have hed := rowS_at hE.tab.rows hjl
       rw [ej] at hed
       have hbj := rowN_in hE.tab.basic hjb
       have hwj := HWW.out.bas j hjb
       have hyf := HWW.out.fr j v
       rw [show rs.length - j = (rs.length - (j + 1)) + 1 by omega, upd] at hU
       change wr.cell? ⟨gR, j, none⟩ = some (.slice (some ⟨gj, 0, none⟩) (rdR t.rows j).length cj) at hed
       change wr.cell? ⟨gB, j, none⟩ = some (.int .i64 ((rdN t.basic j : Nat) : Int)) at hbj
       change wr.cell? ⟨gj, v * 2, none⟩ = some (.int .i64 (rdQ (rdR t.rows j) v).num) at y0
       change wr.cell? ⟨gj, v * 2 + 1, none⟩ = some (.int .i64 (rdQ (rdR t.rows j) v).den) at y1
       obtain ⟨wj, hwje⟩ : ∃ wj, rdN t.basic j = wj := ⟨_, rfl⟩
       obtain ⟨y, hye⟩ : ∃ y, rdQ (rdR t.rows j) v = y := ⟨_, rfl⟩
       obtain ⟨lj, hlj⟩ : ∃ lj, (rdR t.rows j).length = lj := ⟨_, rfl⟩
       rw [hwje] at hbj hwj hU
       rw [hye] at y0 y1 hyf hU
       rw [hlj] at hed hcj
       have hvj : v < lj := by omega
       have b1 : wr.cell? ⟨tb, 1, none⟩ = some (.slice (some ⟨gB, 0, none⟩) t.basic.length cB) := blk_cell hE.tab.box 1
       have EW := Lib.hid (wrapj (show j + 1 < 9223372036854775808 by have := HWW.out.max; have := HWW.out.vl; have := HWW.out.rl; omega))
       have HJ := Lib.hid (And.intro hjr ej)
       have HE := Lib.hid hE
       have H7 := Lib.hid h7
       have H8 := Lib.hid h8
       have HVL := Lib.hid hvl
       have HVF := Lib.hid hvf
       have hwv : wj < val.length := by rw [hvl]; exact hwj
       have HWV := Lib.hid hwv
       clear hE h7 h8 hvl hvf hcj hwje hye hlj hwv ej hjr k2
       by_cases hja : j = a
       ·subst hja
        rw [if_neg (fun h => h.1 rfl)] at hU
        have HU := Lib.hid hU
        clear hU
        go_wp2
        refine ⟨⟨j + 1, val, hjl, congrArg (Value.int .i64) EW.out, HU.out, HVL.out, HVF.out, HE.out, H7.out, H8.out⟩, ?_⟩
        rw [EW.out]
        simp only [intOf, Int.toNat_natCast]
        exact meas_lt hjl
       ·have e2 : ((j : Int) = (a : Int)) = False := eq_false (by omega)
        have e3 : (j = a) = False := eq_false hja
        by_cases hy : y = 0
        ·rw [if_neg (fun h => h.2 hy)] at hU
         have HU := Lib.hid hU
         have HS := Lib.hid (sign_zero hy)
         clear hU hy hyf hja
         go_wp2_with fail
         refine (HS.out _).mono ?_
         rintro e w2 ⟨rfl, hb2⟩
         have HB2 := Lib.hid hb2
         clear hb2
         go_wp2
         refine ⟨⟨j + 1, val, hjl, congrArg (Value.int .i64) EW.out, HU.out, HVL.out, HVF.out, HE.out.keep HB2.out, H7.out.keep HB2.out, H8.out.keep HB2.out⟩, ?_⟩
         rw [EW.out]
         simp only [intOf, Int.toNat_natCast]
         exact meas_lt hjl
        ·rw [if_pos ⟨hja, hy⟩] at hU
         obtain ⟨s, hs0, hs⟩ := sign_ne hy
         have hs1 : (s != 0) = true := bne_iff_ne.2 (of_eq_false hs0)
         have e4 : ((j : Int) != (a : Int)) = true := bne_iff_ne.2 (of_eq_false e2)
         have HS := Lib.hid hs
         have HYF := Lib.hid hyf
         obtain ⟨u, hue⟩ : ∃ u, rdQ val wj = u := ⟨_, rfl⟩
         have huf := HVF.out wj
         rw [hue] at huf hU
         have HUF := Lib.hid huf
         have HC9 := Lib.hid (show Cells [(⟨tb, 3, none⟩, .slice (some ⟨gV, 0, none⟩) t.value.length cV), (⟨gV, wj * 2, none⟩, .int .i64 u.num), (⟨gV, wj * 2 + 1, none⟩, .int .i64 u.den), (⟨gj, v * 2, none⟩, .int .i64 y.num), (⟨gj, v * 2 + 1, none⟩, .int .i64 y.den), (⟨g8, 0, none⟩, .int .i64 by_.num), (⟨g8, 1, none⟩, .int .i64 by_.den)] wr from by
          obtain ⟨l0, l1, -⟩ := rowQ_in HE.out.tab.value HWV.out
          change wr.cell? ⟨gV, wj * 2, none⟩ = some (.int .i64 (rdQ val wj).num) at l0
          change wr.cell? ⟨gV, wj * 2 + 1, none⟩ = some (.int .i64 (rdQ val wj).den) at l1
          rw [hue] at l0 l1
          exact ⟨blk_cell HE.out.tab.box 3, l0, l1, y0, y1, H8.out.cells.1, H8.out.cells.2, trivial⟩)
         clear hs hy hyf hja huf hue
         go_wp2_with fail
         refine (HS.out _).mono ?_
         rintro e w9 ⟨rfl, hb9⟩
         have HE9 := Lib.hid (HE.out.keep hb9)
         have H79 := Lib.hid (H7.out.keep hb9)
         have H89 := Lib.hid (H8.out.keep hb9)
         have HC9 := Lib.hid (HC9.out.keep hb9)
         clear hb9 HE H7 H8 HS y0 y1 hed hbj b1
         cases hq4 : okQ (y * by_) with
         | none =>
          rw [hq4, Option.bind_none] at hU
          have HTI := Lib.hid (fun W => times_no HYF.out HBF.out (fun hf => by rw [okQ_fit hf] at hq4; cases hq4) W)
          have hX := HX.out
          rw [← hU, Option.bind_none] at hX
          subst hX
          clear hq4 hU
          go_wp2_with fail
          refine wp_region_L 26 (Hd _ w9 w9.heap.size) Z280 (⟨Nat.le_refl _, HC9.out.keep (Below.refl _ _).drew, (Below.refl _ _).drew⟩) (fun hHeld => ?_)
          refine tl0.go ?_
          refine tl1.go ?_
          refine tl2.go ?_
          refine tl3.go ?_
          refine tl4.go ?_
          refine tl5.go ?_
          refine tl6.go ?_
          refine tl7.go ?_
          refine tl8.go ?_
          refine tl9.go ?_
          refine tl10.go ?_
          refine tl11.go ?_
          refine tl12.go ?_
          refine tl13.go ?_
          refine tl14.go ?_
          refine tl15.go ?_
          refine tl16.go ?_
          refine al17.ret (HTI.out _) (fun w2 hb2 hHeld => ?_); (try have HP := hp_keep HP hb2)
          refine tl18.go ?_
          refine tl19.go ?_
          refine wpAnyL_ready (rs := [20]) Z280 (by simp) (al20 (fun K hK => ?_) (AllReadyL.nil))
          focus go_simp
          ·exact Z285
         | some p =>
          obtain ⟨hpe, hpf⟩ := okQ_some hq4
          rw [hq4, Option.bind_some] at hU
          have HTI := Lib.hid (fun W => times_ok HYF.out HBF.out (by rw [← hpe]; exact hpf) W)
          rw [← hpe] at HTI
          have HPF := Lib.hid hpf
          clear hq4 hpe hpf
          cases hq5 : okQ (u + p) with
          | none =>
           rw [hq5, Option.bind_none] at hU
           have HPL := Lib.hid (fun W => plus_no HUF.out HPF.out (fun hf => by rw [okQ_fit hf] at hq5; cases hq5) W)
           have hX := HX.out
           rw [← hU, Option.bind_none] at hX
           subst hX
           clear hq5 hU
           go_wp2_with fail
           refine wp_region_L 26 (Hd _ w9 w9.heap.size) Z280 (⟨Nat.le_refl _, HC9.out.keep (Below.refl _ _).drew, (Below.refl _ _).drew⟩) (fun hHeld => ?_)
           refine tl0.go ?_
           refine tl1.go ?_
           refine tl2.go ?_
           refine tl3.go ?_
           refine tl4.go ?_
           refine tl5.go ?_
           refine tl6.go ?_
           refine tl7.go ?_
           refine tl8.go ?_
           refine tl9.go ?_
           refine tl10.go ?_
           refine tl11.go ?_
           refine tl12.go ?_
           refine tl13.go ?_
           refine tl14.go ?_
           refine tl15.go ?_
           refine tl16.go ?_
           refine al17.ret (HTI.out _) (fun w2 hb2 hHeld => ?_); (try have HP := hp_keep HP hb2)
           refine tl18.go ?_
           refine tl19.go ?_
           refine al20.ret (mustq_ok _ _) (fun w2 hb2 hHeld => ?_); (try have HP := hp_keep HP hb2)
           refine al21.ret (HPL.out _) (fun w2 hb2 hHeld => ?_); (try have HP := hp_keep HP hb2)
           refine tl22.go ?_
           refine tl23.go ?_
           refine wpAnyL_ready (rs := [24]) Z280 (by simp) (al24 (fun K hK => ?_) (AllReadyL.nil))
           focus go_simp
           ·exact Z285
          | some x' =>
           obtain ⟨hxe, hxf⟩ := okQ_some hq5
           rw [hq5, Option.bind_some] at hU
           have HPL := Lib.hid (fun W => plus_ok HUF.out HPF.out (by rw [← hxe]; exact hxf) W)
           rw [← hxe] at HPL
           have HXF := Lib.hid hxf
           have HU := Lib.hid hU
           clear hq5 hxe hxf hU
           go_wp2_with fail
           refine wp_region_L 26 (Hd _ w9 w9.heap.size) Z280 (⟨Nat.le_refl _, HC9.out.keep (Below.refl _ _).drew, (Below.refl _ _).drew⟩) (fun hHeld => ?_)
           refine tl0.go ?_
           refine tl1.go ?_
           refine tl2.go ?_
           refine tl3.go ?_
           refine tl4.go ?_
           refine tl5.go ?_
           refine tl6.go ?_
           refine tl7.go ?_
           refine tl8.go ?_
           refine tl9.go ?_
           refine tl10.go ?_
           refine tl11.go ?_
           refine tl12.go ?_
           refine tl13.go ?_
           refine tl14.go ?_
           refine tl15.go ?_
           refine tl16.go ?_
           refine al17.ret (HTI.out _) (fun w2 hb2 hHeld => ?_); (try have HP := hp_keep HP hb2)
           refine tl18.go ?_
           refine tl19.go ?_
           refine al20.ret (mustq_ok _ _) (fun w2 hb2 hHeld => ?_); (try have HP := hp_keep HP hb2)
           refine al21.ret (HPL.out _) (fun w2 hb2 hHeld => ?_); (try have HP := hp_keep HP hb2)
           refine tl22.go ?_
           refine tl23.go ?_
           refine al24.ret (mustq_ok _ _) (fun w2 hb2 hHeld => ?_); (try have HP := hp_keep HP hb2)
           refine tl25.go ?_
           refine wpAnyL_ready (rs := [26]) Z280 (by simp) (al26 (fun K hK => ?_) (AllReadyL.nil))
           focus (obtain ⟨p_, q_, s0, s1, sf0, sf1⟩ := rowQ_st (HE9.out.keep hHeld.below).tab.value HWV.out; go_simp)
           refine hK.out _ _ (fun h => absurd rfl h) (fun _ => ?_)
           focus (clear hK K; refine Zp28 ?_)
           refine wpAnyL_done Z280 ?_ _; rotate_left 1
           have HEx := Lib.hid ((HE9.out.keep hHeld.below).setV HWV.out x')
           have H8x := Lib.hid ((H89.out.keep hHeld.below).set (i := wj * 2) (k := wj * 2 + 1) HGV.out (.int .i64 x'.num) (.int .i64 x'.den))
           have H7x := Lib.hid ((H79.out.keep hHeld.below).set (i := wj * 2) (k := wj * 2 + 1) HGV.out (.int .i64 x'.num) (.int .i64 x'.den))
           generalize (w2.setCell ⟨gV, wj * 2, none⟩ (.int .i64 x'.num)).setCell ⟨gV, wj * 2 + 1, none⟩ (.int .i64 x'.den) = wx at HEx H8x H7x ⊢
           clear s0 s1 sf0 sf1 hHeld hb2
           go_wp2
           refine ⟨⟨j + 1, val.set wj x', hjl, congrArg (Value.int .i64) EW.out, HU.out, by rw [List.length_set]; exact HVL.out, fit_set HVF.out wj HXF.out, HEx.out, H7x.out, H8x.out⟩, ?_⟩
           rw [EW.out]
           simp only [intOf, Int.toNat_natCast]
           exact meas_lt hjl
      ·obtain rfl : j = rs.length := by omega
       obtain ⟨wo, hwo⟩ : ∃ wo, wo = wr := ⟨_, rfl⟩
       subst hwo
       rw [Nat.sub_self, upd] at hU
       have hX := HX.out
       rw [← hU, Option.bind_some] at hX
       have hed := rowS_at hE.tab.rows har
       rw [HEA.out] at hed
       have hRA := hE.tab.row a har
       rw [HEA.out] at hRA
       change RowQ wo base (.slice (some ⟨gA, 0, none⟩) rowa.length cA) (rdR t.rows a) at hRA
       rw [HRA.out] at hRA
       have b2 : wo.cell? ⟨tb, 2, none⟩ = some (.slice (some ⟨gR, 0, none⟩) rs.length cR) := blk_cell hE.tab.box 2
       have HCL := Lib.hid (clone_any rowa gA 0 cA wo (by have := HFRA.out.2; have := HM.out; omega) (rowQ_cells hRA))
       have HE := Lib.hid hE
       have H7 := Lib.hid h7
       have HVL := Lib.hid hvl
       have HVF := Lib.hid hvf
       have HX := Lib.hid hX
       obtain ⟨z, hz⟩ : ∃ z : Rat, z = 0 := ⟨_, rfl⟩
       obtain ⟨mo, hmo⟩ : ∃ z : Rat, z = -1 := ⟨_, rfl⟩
       have HZ := Lib.hid hz
       have HMO := Lib.hid hmo
       have HWz := Lib.hid (fun W => wholez hz W)
       have HWm := Lib.hid (fun W => wholem hmo W)
       have HSZ := Lib.hid (show w.heap.size ≤ wo.heap.size from hE.below.size)
       clear hU hE h7 h8 hvl hvf hRA hX hz hmo k2 hj hjl
       go_wp2_with fail
       refine HCL.out.mono ?_
       rintro e wc ⟨vn, rfl, hN, hbc⟩
       obtain ⟨gN, cN, eN, hgN, -, -, -, -⟩ := rowQ_rd hN (i := v) hvr
       subst eN
       have HN := Lib.hid hN
       have HBC := Lib.hid hbc
       clear hN hbc hed b2 HCL
       go_wp2_with fail
       refine (HWz.out _).mono ?_
       rintro e wd ⟨rfl, hbd⟩
       have HND := rl_keep HN hbd
       have HBD := Lib.hid (HBC.out.trans (hbd.mono HBC.out.size))
       clear hbd HN HBC
       go_wp2_with fail
       refine (HWm.out _).mono ?_
       rintro e we ⟨rfl, hbe⟩
       have HN := rl_keep HND hbe
       have HBE := Lib.hid (HBD.out.trans (hbe.mono HBD.out.size))
       clear hbe HND HBD
       have hwr : was < rowa.length := by have := HWN.out; have := HFRA.out.2; omega
       obtain ⟨p1, q1, s0, s1, sf0, sf1⟩ := rowQ_st HN.out hvr
       go_wp2_with (first | ((with_reducible refine gate_store (t := 28) (p := 151) (v := .tmp 149) rfl ?_); refine Hid.out ?_))
       refine Lib.hid ?_
       have HN1 := Lib.hid (rowQ_set HN.out v hvr z)
       have HBF1 := Lib.hid (below_set2 (i := v * 2) (k := v * 2 + 1) (x := .int .i64 z.num) (y := .int .i64 z.den) HBE.out hgN)
       generalize (we.setCell ⟨gN, v * 2, none⟩ (.int .i64 z.num)).setCell ⟨gN, v * 2 + 1, none⟩ (.int .i64 z.den) = wf at HN1 HBF1 ⊢
       have hws : was < (rowa.set v z).length := by rw [List.length_set]; exact hwr
       clear s0 s1 sf0 sf1 HN HBE
       obtain ⟨p2, q2, s0, s1, sf0, sf1⟩ := rowQ_st HN1.out hws
       have HN2 := Lib.hid (rowQ_set HN1.out was hws mo)
       have HBF2 := Lib.hid (below_set2 (i := was * 2) (k := was * 2 + 1) (x := .int .i64 mo.num) (y := .int .i64 mo.den) HBF1.out hgN)
       obtain ⟨wg, hwg⟩ : ∃ wg, (wf.setCell ⟨gN, was * 2, none⟩ (.int .i64 mo.num)).setCell ⟨gN, was * 2 + 1, none⟩ (.int .i64 mo.den) = wg := ⟨_, rfl⟩
       rw [hwg] at HN2 HBF2
       have HWG := Lib.hid hwg
       clear hwg HN1 HBF1
       have hX := HX.out
       rw [← HZ.out, ← HMO.out] at hX
       obtain ⟨nx0, hnx0⟩ : ∃ nx0, (rowa.set v z).set was mo = nx0 := ⟨_, rfl⟩
       have hn0l : nx0.length = rowa.length := by rw [← hnx0, List.length_set, List.length_set]
       have hn0f : ∀ k, Fit (rdQ nx0 k) := by
        rw [← hnx0]
        exact fit_set (fit_set HFRA.out.1 v (by rw [HZ.out]; exact fit0)) was (by rw [HMO.out]; exact int_fit (n := -1) ⟨by decide, by decide⟩)
       rw [hnx0] at hX HN2
       obtain ⟨rN, hrN⟩ : ∃ rN, nextF c nx0 = rN := ⟨_, rfl⟩
       rw [hrN] at hX
       have HX := Lib.hid hX
       have HRN := Lib.hid hrN
       have HN0 := Lib.hid (And.intro hn0l hn0f)
       clear hX hrN hn0l hn0f hnx0 hws hwr
       go_wp2
       go_loopw [154] (fun v154 wq => ∃ (k : Nat) (pre : List Rat), k ≤ rowa.length ∧ v154 = .int .i64 k ∧ pre.length = k ∧ rN = (nextF c (nx0.drop k)).bind (fun l => some (pre ++ l)) ∧ RowQ wq wo.heap.size (.slice (some ⟨gN, 0, none⟩) rowa.length cN) (pre ++ nx0.drop k) ∧ Below wo.heap.size wo wq) (fun v154 _ => rowa.length - (intOf v154).toNat)
       case atStart =>
        refine ⟨0, [], Nat.zero_le _, rfl, rfl, by rw [List.drop_zero, HRN.out]; cases rN <;> rfl, ?_, ?_⟩
        ·rw [HWG.out, List.drop_zero]; exact HN2.out
        ·rw [HWG.out]; exact HBF2.out
       case round =>
        obtain ⟨k, pre, hk, rfl, hpl, hF, hN, hbr⟩ := hrel
        by_cases hkl : k < rowa.length
        ·have hk0 : k < nx0.length := by rw [HN0.out.1]; exact hkl
         have hki : k < (pre ++ nx0.drop k).length := by rw [len_drop hpl (Nat.le_of_lt hk0)]; exact hk0
         obtain ⟨s0, s1, -, -, -, -⟩ := rowQ_in hN hki
         rw [rdQ_drop hpl hk0] at s0 s1
         have hnf := HN0.out.2 k
         have hsd := same_drop (pre := pre) hk0
         rw [List.drop_eq_getElem_cons hk0, nextF] at hF
         rw [rdQ_get hk0] at hF hsd
         obtain ⟨n, hn⟩ : ∃ n, rdQ nx0 k = n := ⟨_, rfl⟩
         rw [hn] at s0 s1 hnf hF hsd
         have EW := Lib.hid (wrapj (show k + 1 < 9223372036854775808 by have := HFRA.out.2; have := HM.out; omega))
         have H7r := Lib.hid (H7.out.keep hbr)
         have HBR := Lib.hid hbr
         have HNR := Lib.hid hN
         have HPL := Lib.hid hpl
         have HK0 := Lib.hid hk0
         have HSD := Lib.hid hsd
         have HKI := Lib.hid hki
         have HNF := Lib.hid hnf
         clear hbr hN hpl hk0 hki hn hnf hsd
         by_cases hz : n = 0
         ·rw [if_pos hz] at hF
          have HF := Lib.hid hF
          have HS := Lib.hid (sign_zero hz)
          clear hF hz
          go_wp2_with fail
          refine (HS.out _).mono ?_
          rintro e w2 ⟨rfl, hb2⟩
          have HB2 := Lib.hid (((Below.refl wr.heap.size wr).alloc (Nat.le_refl _) (.cells #[.int .i64 n.num, .int .i64 n.den] 28)).trans (hb2.mono (by simp)))
          clear hb2 s0 s1
          go_wp2
          refine ⟨⟨k + 1, pre ++ [n], hkl, congrArg (Value.int .i64) EW.out, by rw [List.length_append, HPL.out]; rfl, ?_, ?_, HBR.out.trans (HB2.out.mono HBR.out.size)⟩, ?_⟩
          ·rw [HF.out, Option.bind_some]
           cases nextF c (nx0.drop (k + 1)) <;> simp
          ·rw [← HSD.out]; exact HNR.out.below HB2.out
          ·rw [EW.out]
           simp only [intOf, Int.toNat_natCast]
           exact meas_lt hkl
         ·rw [if_neg hz] at hF
          obtain ⟨s, hs0, hs⟩ := sign_ne hz
          have hs1 : (s != 0) = true := bne_iff_ne.2 (of_eq_false hs0)
          have HS := Lib.hid hs
          clear hs hz
          go_wp2_with fail
          refine (HS.out _).mono ?_
          rintro e w9 ⟨rfl, hb9⟩
          have HB9 := Lib.hid (((Below.refl wr.heap.size wr).alloc (Nat.le_refl _) (.cells #[.int .i64 n.num, .int .i64 n.den] 28)).trans (hb9.mono (by simp)))
          have HC9 := Lib.hid (show Cells [(⟨wr.heap.size, 0, none⟩, .int .i64 n.num), (⟨wr.heap.size, 1, none⟩, .int .i64 n.den), (⟨g_, 0, none⟩, .int .i64 c.num), (⟨g_, 1, none⟩, .int .i64 c.den)] w9 from ⟨kcell hb9 (new2 _ _ _ _).1, kcell hb9 (new2 _ _ _ _).2, (H7r.out.keep HB9.out).cells.1, (H7r.out.keep HB9.out).cells.2, trivial⟩)
          clear hb9 s0 s1
          cases hq6 : okQ (n / c) with
          | none =>
           rw [hq6, Option.bind_none, Option.bind_none, Option.bind_none] at hF
           have HOV := Lib.hid (fun W => over_no HNF.out HCF.out.1 HCF.out.2 (fun hf => by rw [okQ_fit hf] at hq6; cases hq6) W)
           have hX := HX.out
           rw [hF, Option.bind_none] at hX
           subst hX
           clear hq6 hF
           go_wp2_with fail
           refine wp_region_L 14 (Hd _ w9 w9.heap.size) Z280 (⟨Nat.le_refl _, HC9.out.keep (Below.refl _ _).drew, (Below.refl _ _).drew⟩) (fun hHeld => ?_)
           refine tl0.go ?_
           refine tl1.go ?_
           refine tl3.go ?_
           refine tl4.go ?_
           refine al2.ret (HWz.out _) (fun w2 hb2 hHeld => ?_); (try have HP := hp_keep HP hb2)
           refine al5.ret (HOV.out _) (fun w2 hb2 hHeld => ?_); (try have HP := hp_keep HP hb2)
           refine tl6.go ?_
           refine tl7.go ?_
           refine wpAnyL_ready (rs := [8]) Z280 (by simp) (al8 (fun K hK => ?_) (AllReadyL.nil))
           focus go_simp
           ·exact Z286
          | some q =>
           obtain ⟨hqe, hqf⟩ := okQ_some hq6
           rw [hq6, Option.bind_some, ← HZ.out] at hF
           have HOV := Lib.hid (fun W => over_ok HNF.out HCF.out.1 HCF.out.2 (by rw [← hqe]; exact hqf) W)
           rw [← hqe] at HOV
           have HQF := Lib.hid hqf
           clear hq6 hqe hqf
           cases hq7 : okQ (z - q) with
           | none =>
            rw [hq7, Option.bind_none, Option.bind_none] at hF
            have HMI := Lib.hid (fun W => minus_no (show Fit z by rw [HZ.out]; exact fit0) HQF.out (fun hf => by rw [okQ_fit hf] at hq7; cases hq7) W)
            have hX := HX.out
            rw [hF, Option.bind_none] at hX
            subst hX
            clear hq7 hF
            go_wp2_with fail
            refine wp_region_L 14 (Hd _ w9 w9.heap.size) Z280 (⟨Nat.le_refl _, HC9.out.keep (Below.refl _ _).drew, (Below.refl _ _).drew⟩) (fun hHeld => ?_)
            refine tl0.go ?_
            refine tl1.go ?_
            refine tl3.go ?_
            refine tl4.go ?_
            refine al2.ret (HWz.out _) (fun w2 hb2 hHeld => ?_); (try have HP := hp_keep HP hb2)
            refine al5.ret (HOV.out _) (fun w2 hb2 hHeld => ?_); (try have HP := hp_keep HP hb2)
            refine tl6.go ?_
            refine tl7.go ?_
            refine al8.ret (mustq_ok _ _) (fun w2 hb2 hHeld => ?_); (try have HP := hp_keep HP hb2)
            refine al9.ret (HMI.out _) (fun w2 hb2 hHeld => ?_); (try have HP := hp_keep HP hb2)
            refine tl10.go ?_
            refine tl11.go ?_
            refine wpAnyL_ready (rs := [12]) Z280 (by simp) (al12 (fun K hK => ?_) (AllReadyL.nil))
            focus go_simp
            ·exact Z286
           | some x =>
            obtain ⟨hxe, hxf⟩ := okQ_some hq7
            rw [hq7, Option.bind_some] at hF
            have HMI := Lib.hid (fun W => minus_ok (show Fit z by rw [HZ.out]; exact fit0) HQF.out (by rw [← hxe]; exact hxf) W)
            rw [← hxe] at HMI
            have HF := Lib.hid hF
            have HL := Lib.hid ((HNR.out.below HB9.out).below (w1 := w9.drew) (Below.refl _ _).drew)
            clear hq7 hxe hxf hF
            go_wp2_with fail
            refine wp_region_L 14 (Hd _ w9 w9.heap.size) Z280 (⟨Nat.le_refl _, HC9.out.keep (Below.refl _ _).drew, (Below.refl _ _).drew⟩) (fun hHeld => ?_)
            refine tl0.go ?_
            refine tl1.go ?_
            refine tl3.go ?_
            refine tl4.go ?_
            refine al2.ret (HWz.out _) (fun w2 hb2 hHeld => ?_); (try have HP := hp_keep HP hb2); (try have HL := rl_keep HL hb2)
            refine al5.ret (HOV.out _) (fun w2 hb2 hHeld => ?_); (try have HP := hp_keep HP hb2); (try have HL := rl_keep HL hb2)
            refine tl6.go ?_
            refine tl7.go ?_
            refine al8.ret (mustq_ok _ _) (fun w2 hb2 hHeld => ?_); (try have HP := hp_keep HP hb2); (try have HL := rl_keep HL hb2)
            refine al9.ret (HMI.out _) (fun w2 hb2 hHeld => ?_); (try have HP := hp_keep HP hb2); (try have HL := rl_keep HL hb2)
            refine tl10.go ?_
            refine tl11.go ?_
            refine al12.ret (mustq_ok _ _) (fun w2 hb2 hHeld => ?_); (try have HP := hp_keep HP hb2); (try have HL := rl_keep HL hb2)
            refine tl13.go ?_
            refine wpAnyL_ready (rs := [14]) Z280 (by simp) (al14 (fun K hK => ?_) (AllReadyL.nil))
            focus (obtain ⟨p_, q_, s0, s1, sf0, sf1⟩ := rowQ_st HL.out HKI.out; go_simp)
            refine hK.out _ _ (fun h => absurd rfl h) (fun _ => ?_)
            focus (clear hK K; refine Zp28 ?_)
            refine wpAnyL_done Z280 ?_ _; rotate_left 1
            all_goals
             have HLx := Lib.hid (rowQ_set HL.out k HKI.out x)
             have HBx := Lib.hid (below_set2 (i := k * 2) (k := k * 2 + 1) (x := .int .i64 x.num) (y := .int .i64 x.den) (HBR.out.trans ((HB9.out.trans (hHeld.below.mono HB9.out.size)).mono HBR.out.size)) hgN)
             generalize (w2.setCell ⟨gN, k * 2, none⟩ (.int .i64 x.num)).setCell ⟨gN, k * 2 + 1, none⟩ (.int .i64 x.den) = wx at HLx HBx ⊢
             clear s0 s1 sf0 sf1 hHeld hb2
             go_wp2
             refine ⟨⟨k + 1, pre ++ [x], hkl, congrArg (Value.int .i64) EW.out, by rw [List.length_append, HPL.out]; rfl, ?_, ?_, HBx.out⟩, ?_⟩
             ·rw [HF.out]
              cases nextF c (nx0.drop (k + 1)) <;> simp
             ·rw [← set_drop HPL.out HK0.out x]; exact HLx.out
             ·rw [EW.out]
              simp only [intOf, Int.toNat_natCast]
              exact meas_lt hkl
        ·obtain rfl : k = rowa.length := by omega
         obtain ⟨wn, hwn⟩ : ∃ wn, wn = wr := ⟨_, rfl⟩
         subst hwn
         rw [List.drop_of_length_le (by rw [HN0.out.1]; exact Nat.le_refl _), nextF, Option.bind_some, List.append_nil] at hF
         rw [List.drop_of_length_le (by rw [HN0.out.1]; exact Nat.le_refl _), List.append_nil] at hN
         have hX := HX.out
         rw [hF, Option.bind_some] at hX
         obtain ⟨rR, hrR⟩ : ∃ rR, rowsF v a pre 0 t.rows = rR := ⟨_, rfl⟩
         rw [hrR] at hX
         have hRN0 := HRN.out
         rw [hF] at hRN0
         have hN0f := HN0.out.2
         have HX := Lib.hid hX
         have HRR := Lib.hid hrR
         have HEn := Lib.hid (HE.out.keep hbr)
         have HNn := Lib.hid hN
         have HNL := Lib.hid hpl
         have HWO := Lib.hid (show w.heap.size ≤ gN from Nat.le_trans (Nat.le_trans (show w.heap.size ≤ w.heap.size from Nat.le_refl _) HSZ.out) hgN)
         have HUL := Lib.hid (unlike_new HE.out.tab.limits hN)
         have HUV := Lib.hid (unlike_new HE.out.tab.value hN)
         have HUR := Lib.hid (fun j (hj : j < rs.length) => unlike_new (HE.out.tab.row j hj) hN)
         have b2 : wn.cell? ⟨tb, 2, none⟩ = some (.slice (some ⟨gR, 0, none⟩) rs.length cR) := blk_cell HEn.out.tab.box 2
         have HBO := Lib.hid (HE.out.size)
         clear hX hrR hF hN hbr hpl hk hkl H7 HRN HN0 HWG HN2 HBF2
         have HNF0 := Lib.hid ((nextF_wf hRN0).2 (fun y hy => fit_mem hN0f hy))
         clear hRN0 hN0f
         obtain ⟨nx, hnx⟩ : ∃ nx, nx = pre := ⟨_, rfl⟩
         subst hnx
         go_wp2
         go_loopw [182] (fun v182 wz => ∃ (j : Nat) (rw' : List (List Rat)), j ≤ rs.length ∧ v182 = .int .i64 j ∧ rw'.length = j ∧ rR = (rowsF v a nx j (t.rows.drop j)).bind (fun l => some (rw' ++ l)) ∧ Ex w wz base tb vars { t with value := val, rows := rw' ++ t.rows.drop j } (.slice (some ⟨gB, 0, none⟩) t.basic.length cB) (.slice (some ⟨gR, 0, none⟩) rs.length cR) (.slice (some ⟨gV, 0, none⟩) t.value.length cV) (.slice (some ⟨gL, 0, none⟩) t.limits.length cL) rs ∧ RowQ wz wo.heap.size (.slice (some ⟨gN, 0, none⟩) rowa.length cN) nx) (fun v182 _ => rs.length - (intOf v182).toNat)
         case atStart => exact ⟨0, [], Nat.zero_le _, rfl, rfl, by rw [List.drop_zero, HRR.out]; cases rR <;> rfl, by rw [List.drop_zero]; exact HEn.out, HNn.out⟩
         case round =>
          obtain ⟨wi, hwi⟩ : ∃ wi, wi = wr := ⟨_, rfl⟩
          subst hwi
          obtain ⟨j, rw', hj, rfl, hrl, hF, hE, hN⟩ := hrel
          by_cases hjl : j < rs.length
          ·have hjr : j < t.rows.length := by rw [HNN.out]; exact hjl
           have hRow := hE.tab.row j hjl
           change RowQ wi base rs[j] (rdR (rw' ++ t.rows.drop j) j) at hRow
           rw [rdR_drop hrl hjr] at hRow
           have hcj := HWW.out.cl j hjr
           have hfj := HWW.out.fr j
           have hsd := same_drop (pre := rw') hjr
           rw [List.drop_eq_getElem_cons hjr, rowsF] at hF
           rw [rdR_get hjr] at hF hsd
           obtain ⟨row, hrow⟩ : ∃ row, rdR t.rows j = row := ⟨_, rfl⟩
           rw [hrow] at hRow hcj hfj hF hsd
           have hcr : row.length = rowa.length := by rw [hcj, HFRA.out.2]
           obtain ⟨gj, cj, ej, -, -, y0, y1, -⟩ := rowQ_rd hRow (i := v) (by omega)
           have hed := rowS_at hE.tab.rows hjl
           rw [ej] at hed
           obtain ⟨y, hye⟩ : ∃ y, rdQ row v = y := ⟨_, rfl⟩
           have hyf := hfj v
           rw [hye] at y0 y1 hyf hF
           have hvj : v < row.length := by omega
           have hgj : gj < w.heap.size := hE.old2 j hjl gj (by rw [ej]; rfl)
           have EW := Lib.hid (wrapj (show j + 1 < 9223372036854775808 by have := HWW.out.max; have := HWW.out.vl; have := HWW.out.rl; omega))
           have HSD := Lib.hid hsd
           have HEJ := Lib.hid ej
           have HGJ := Lib.hid hgj
           have HCR := Lib.hid hcr
           have HRL := Lib.hid hrl
           have HRW := Lib.hid hrow
           have HJR := Lib.hid hjr
           have HFJ := Lib.hid hfj
           have HE3 := Lib.hid hE
           have HN3 := Lib.hid hN
           clear hsd ej hgj hcr hcj hrl hrow hjr hfj hE hN hRow hye b2
           by_cases hja : j = a
           ·subst hja
            rw [if_pos (.inl rfl), Option.bind_some] at hF
            have HF := Lib.hid hF
            clear hF
            go_wp2
            refine ⟨⟨j + 1, rw' ++ [row], hjl, congrArg (Value.int .i64) EW.out, by rw [List.length_append, HRL.out]; rfl, ?_, by rw [← HSD.out]; exact HE3.out.keep ((Below.refl _ _).alloc (Nat.le_refl _) _), HN3.out.below ((Below.refl _ _).alloc (Nat.le_refl _) _)⟩, ?_⟩
            ·rw [HF.out]
             cases rowsF v j nx (j + 1) (t.rows.drop (j + 1)) <;> simp
            ·rw [EW.out]
             simp only [intOf, Int.toNat_natCast]
             exact meas_lt hjl
           ·have e2 : ((j : Int) = (a : Int)) = False := eq_false (by omega)
            have e3 : (j = a) = False := eq_false hja
            have e4 : ((j : Int) == (a : Int)) = false := beq_eq_false_iff_ne.2 (of_eq_false e2)
            by_cases hy : y = 0
            ·rw [if_pos (.inr hy), Option.bind_some] at hF
             have HF := Lib.hid hF
             have HS := Lib.hid (sign_zero hy)
             clear hF hy hja hyf
             go_wp2_with fail
             refine (HS.out _).mono ?_
             rintro e w2 ⟨rfl, hb2⟩
             have HB2 := Lib.hid (((Below.refl wi.heap.size wi).alloc (Nat.le_refl _) (.cells #[.int .i64 y.num, .int .i64 y.den] 28)).trans (hb2.mono (by simp)))
             clear hb2
             go_wp2
             refine ⟨⟨j + 1, rw' ++ [row], hjl, congrArg (Value.int .i64) EW.out, by rw [List.length_append, HRL.out]; rfl, ?_, by rw [← HSD.out]; exact HE3.out.keep HB2.out, HN3.out.below HB2.out⟩, ?_⟩
             ·rw [HF.out]
              cases rowsF v a nx (j + 1) (t.rows.drop (j + 1)) <;> simp
             ·rw [EW.out]
              simp only [intOf, Int.toNat_natCast]
              exact meas_lt hjl
            ·rw [if_neg (by rintro (h | h); exact hja h; exact hy h), ← HZ.out] at hF
             obtain ⟨s, hs0, hs⟩ := sign_ne hy
             have hs1 : (s == 0) = false := beq_eq_false_iff_ne.2 (of_eq_false hs0)
             have HS := Lib.hid hs
             have HYF := Lib.hid hyf
             clear hs hy hja hyf
             go_wp2_with fail
             refine (HS.out _).mono ?_
             rintro e w9 ⟨rfl, hb9⟩
             have HB9 := Lib.hid (((Below.refl wi.heap.size wi).alloc (Nat.le_refl _) (.cells #[.int .i64 y.num, .int .i64 y.den] 28)).trans (hb9.mono (by simp)))
             have HBY := Lib.hid ((show Bx w (wi.alloc (.cells #[.int .i64 y.num, .int .i64 y.den] 28)) wi.heap.size y from ⟨blk_new _ _, HE3.out.below.size⟩).keep hb9)
             clear hb9 y0 y1 hed
             go_wp2_with fail
             refine (HWz.out _).mono ?_
             rintro e wA ⟨rfl, hbA⟩
             have HBA := Lib.hid (HB9.out.trans (hbA.mono HB9.out.size))
             have HBY := Lib.hid (HBY.out.keep hbA)
             have HEA3 := Lib.hid (HE3.out.keep HBA.out)
             have HNA := Lib.hid (HN3.out.below HBA.out)
             clear hbA HB9 HE3 HN3
             have hLl : (rw' ++ t.rows.drop j).length = rs.length := by rw [len_drop HRL.out (Nat.le_of_lt HJR.out), HNN.out]
             have HLL := Lib.hid hLl
             have hEj : Ex w wA base tb vars { t with value := val, rows := (rw' ++ t.rows.drop j).set j row } (.slice (some ⟨gB, 0, none⟩) t.basic.length cB) (.slice (some ⟨gR, 0, none⟩) rs.length cR) (.slice (some ⟨gV, 0, none⟩) t.value.length cV) (.slice (some ⟨gL, 0, none⟩) t.limits.length cL) rs := by
              have := HEA3.out
              have e : (rw' ++ t.rows.drop j).set j row = rw' ++ t.rows.drop j := by
               rw [← HRW.out, ← rdR_drop HRL.out HJR.out]
               exact set_self (by rw [hLl]; exact hjl)
              rw [e]
              exact this
             have HEj := Lib.hid hEj
             have hRA2 := hEj.tab.row j hjl
             change RowQ wA base rs[j] (rdR ((rw' ++ t.rows.drop j).set j row) j) at hRA2
             rw [rdR_set (by rw [hLl]; exact hjl), if_pos rfl, HEJ.out] at hRA2
             obtain ⟨p1, q1, s0, s1, sf0, sf1⟩ := rowQ_st hRA2 hvj
             have HEB := Lib.hid (hEj.setR' (t := { t with value := val }) hjl hLl HEJ.out hvj z)
             have HYB := Lib.hid (HBY.out.set (i := v * 2) (k := v * 2 + 1) HGJ.out (.int .i64 z.num) (.int .i64 z.den))
             have HNB := Lib.hid (rowQ_far HNA.out (g := gj) (i := v * 2) (k := v * 2 + 1) (fun e => by have h1 := HGJ.out; have h2 := HWO.out; have e' : some gN = some gj := e; injection e' with e'; omega) (.int .i64 z.num) (.int .i64 z.den))
             obtain ⟨wB, hwB⟩ : ∃ wB, (wA.setCell ⟨gj, v * 2, none⟩ (.int .i64 z.num)).setCell ⟨gj, v * 2 + 1, none⟩ (.int .i64 z.den) = wB := ⟨_, rfl⟩
             rw [hwB] at HEB HYB HNB
             have HWB := Lib.hid hwB
             obtain ⟨R0, hR0⟩ : ∃ R0, row.set v z = R0 := ⟨_, rfl⟩
             have hR0l : R0.length = rowa.length := by rw [← hR0, List.length_set]; exact HCR.out
             have hR0f : ∀ k, Fit (rdQ R0 k) := by rw [← hR0]; exact fit_set HFJ.out v (by rw [HZ.out]; exact fit0)
             rw [hR0] at hF HEB
             obtain ⟨rI, hrI⟩ : ∃ rI, rowF y R0 nx = rI := ⟨_, rfl⟩
             rw [hrI] at hF
             have HF := Lib.hid hF
             have HRI := Lib.hid hrI
             have HR0 := Lib.hid (And.intro hR0l hR0f)
             clear hwB hF hrI hR0l hR0f hR0 hRA2 hEj hLl HEA3 HNA HBY
             go_wp2
             go_loopw [205] (fun v205 wz => ∃ (k : Nat) (pr : List Rat), k ≤ rowa.length ∧ v205 = .int .i64 k ∧ pr.length = k ∧ rI = (rowF y (R0.drop k) (nx.drop k)).bind (fun l => some (pr ++ l)) ∧ Ex w wz base tb vars { t with value := val, rows := (rw' ++ t.rows.drop j).set j (pr ++ R0.drop k) } (.slice (some ⟨gB, 0, none⟩) t.basic.length cB) (.slice (some ⟨gR, 0, none⟩) rs.length cR) (.slice (some ⟨gV, 0, none⟩) t.value.length cV) (.slice (some ⟨gL, 0, none⟩) t.limits.length cL) rs ∧ RowQ wz wo.heap.size (.slice (some ⟨gN, 0, none⟩) rowa.length cN) nx ∧ Bx w wz wi.heap.size y) (fun v205 _ => rowa.length - (intOf v205).toNat)
             case atStart =>
              refine ⟨0, [], Nat.zero_le _, rfl, rfl, by rw [List.drop_zero, List.drop_zero, HRI.out]; cases rI <;> rfl, ?_, ?_, ?_⟩
              ·rw [HWB.out, List.drop_zero]; exact HEB.out
              ·rw [HWB.out]; exact HNB.out
              ·rw [HWB.out]; exact HYB.out
             case round =>
              obtain ⟨k, pr, hk, rfl, hpl, hF, hE, hN, hY⟩ := hrel
              by_cases hkl : k < rowa.length
              ·have hk0 : k < R0.length := by rw [HR0.out.1]; exact hkl
               have hk1 : k < nx.length := by rw [HNL.out]; exact hkl
               have hki : k < (pr ++ R0.drop k).length := by rw [len_drop hpl (Nat.le_of_lt hk0)]; exact hk0
               obtain ⟨n0, n1, -, -, -, -⟩ := rowQ_in hN hk1
               have hRr := hE.tab.row j hjl
               change RowQ wr base rs[j] (rdR ((rw' ++ t.rows.drop j).set j (pr ++ R0.drop k)) j) at hRr
               rw [rdR_set (by rw [HLL.out]; exact hjl), if_pos rfl, HEJ.out] at hRr
               obtain ⟨r0, r1, -, -, -, -⟩ := rowQ_in hRr hki
               rw [rdQ_drop hpl hk0] at r0 r1
               have hrf := HR0.out.2 k
               have hnf := fit_rdQ (HNF0.out) k
               have hsd := same_drop (pre := pr) hk0
               rw [List.drop_eq_getElem_cons hk0, List.drop_eq_getElem_cons hk1, rowF] at hF
               rw [rdQ_get hk0, rdQ_get hk1] at hF
               rw [rdQ_get hk0] at hsd
               obtain ⟨n, hn⟩ : ∃ n, rdQ nx k = n := ⟨_, rfl⟩
               obtain ⟨r, hr⟩ : ∃ r, rdQ R0 k = r := ⟨_, rfl⟩
               rw [hn] at n0 n1 hnf hF
               rw [hr] at r0 r1 hrf hF hsd
               have EWk := Lib.hid (wrapj (show k + 1 < 9223372036854775808 by have := HFRA.out.2; have := HM.out; omega))
               have HEr := Lib.hid hE
               have HNr := Lib.hid hN
               have HYr := Lib.hid hY
               have HPL := Lib.hid hpl
               have HK0 := Lib.hid hk0
               have HSDk := Lib.hid hsd
               have HKI := Lib.hid hki
               have HNF := Lib.hid hnf
               have HRF := Lib.hid hrf
               have HRr := Lib.hid hRr
               clear hE hN hY hpl hk0 hk1 hki hn hr hnf hrf hsd hRr
               by_cases hz : n = 0
               ·rw [if_pos hz, Option.bind_some] at hF
                have HFk := Lib.hid hF
                have HSk := Lib.hid (sign_zero hz)
                clear hF hz r0 r1
                go_wp2_with fail
                refine (HSk.out _).mono ?_
                rintro e w2 ⟨rfl, hb2⟩
                have HB2 := Lib.hid (((Below.refl wr.heap.size wr).alloc (Nat.le_refl _) (.cells #[.int .i64 n.num, .int .i64 n.den] 28)).trans (hb2.mono (by simp)))
                clear hb2 n0 n1
                go_wp2
                refine ⟨⟨k + 1, pr ++ [r], hkl, congrArg (Value.int .i64) EWk.out, by rw [List.length_append, HPL.out]; rfl, ?_, by rw [← HSDk.out]; exact HEr.out.keep HB2.out, HNr.out.below HB2.out, HYr.out.keep HB2.out⟩, ?_⟩
                ·rw [HFk.out]
                 cases rowF y (R0.drop (k + 1)) (nx.drop (k + 1)) <;> simp
                ·rw [EWk.out]
                 simp only [intOf, Int.toNat_natCast]
                 exact meas_lt hkl
               ·rw [if_neg hz] at hF
                obtain ⟨sk, hsk0, hsk⟩ := sign_ne hz
                have hsk1 : (sk != 0) = true := bne_iff_ne.2 (of_eq_false hsk0)
                have HSk := Lib.hid hsk
                clear hsk hz
                go_wp2_with fail
                refine (HSk.out _).mono ?_
                rintro e wC ⟨rfl, hbC⟩
                have HBC := Lib.hid (((Below.refl wr.heap.size wr).alloc (Nat.le_refl _) (.cells #[.int .i64 n.num, .int .i64 n.den] 28)).trans (hbC.mono (by simp)))
                have HCC := Lib.hid (show Cells [(⟨gj, k * 2, none⟩, .int .i64 r.num), (⟨gj, k * 2 + 1, none⟩, .int .i64 r.den), (⟨wi.heap.size, 0, none⟩, .int .i64 y.num), (⟨wi.heap.size, 1, none⟩, .int .i64 y.den), (⟨wr.heap.size, 0, none⟩, .int .i64 n.num), (⟨wr.heap.size, 1, none⟩, .int .i64 n.den)] wC from ⟨kcell HBC.out r0, kcell HBC.out r1, (HYr.out.keep HBC.out).cells.1, (HYr.out.keep HBC.out).cells.2, kcell hbC (new2 _ _ _ _).1, kcell hbC (new2 _ _ _ _).2, trivial⟩)
                have hkr : k < row.length := by rw [HCR.out]; exact hkl
                clear hbC n0 n1 r0 r1
                cases hq8 : okQ (y * n) with
                | none =>
                 rw [hq8, Option.bind_none, Option.bind_none, Option.bind_none] at hF
                 have HTI := Lib.hid (fun W => times_no HYF.out HNF.out (fun hf => by rw [okQ_fit hf] at hq8; cases hq8) W)
                 have hX := HX.out
                 rw [HF.out, hF, Option.bind_none, Option.bind_none, Option.bind_none] at hX
                 subst hX
                 clear hq8 hF
                 go_wp2_with fail
                 refine wp_region_L 17 (Hd _ wC wC.heap.size) Z280 (⟨Nat.le_refl _, HCC.out.keep (Below.refl _ _).drew, (Below.refl _ _).drew⟩) (fun hHeld => ?_)
                 refine tl0.go ?_
                 refine tl1.go ?_
                 refine tl2.go ?_
                 refine tl3.go ?_
                 refine tl4.go ?_
                 refine tl5.go ?_
                 refine tl6.go ?_
                 refine tl7.go ?_
                 refine al8.ret (HTI.out _) (fun w2 hb2 hHeld => ?_); (try have HP := hp_keep HP hb2); (try have HL := rl_keep HL hb2)
                 refine tl9.go ?_
                 refine tl10.go ?_
                 refine wpAnyL_ready (rs := [11]) Z280 (by simp) (al11 (fun K hK => ?_) (AllReadyL.nil))
                 focus go_simp
                 ·exact Z287
                | some p =>
                 obtain ⟨hpe, hpf⟩ := okQ_some hq8
                 rw [hq8, Option.bind_some] at hF
                 have HTI := Lib.hid (fun W => times_ok HYF.out HNF.out (by rw [← hpe]; exact hpf) W)
                 rw [← hpe] at HTI
                 have HPF := Lib.hid hpf
                 clear hq8 hpe hpf
                 cases hq9 : okQ (r + p) with
                 | none =>
                  rw [hq9, Option.bind_none, Option.bind_none] at hF
                  have HPLs := Lib.hid (fun W => plus_no HRF.out HPF.out (fun hf => by rw [okQ_fit hf] at hq9; cases hq9) W)
                  have hX := HX.out
                  rw [HF.out, hF, Option.bind_none, Option.bind_none, Option.bind_none] at hX
                  subst hX
                  clear hq9 hF
                  go_wp2_with fail
                  refine wp_region_L 17 (Hd _ wC wC.heap.size) Z280 (⟨Nat.le_refl _, HCC.out.keep (Below.refl _ _).drew, (Below.refl _ _).drew⟩) (fun hHeld => ?_)
                  refine tl0.go ?_
                  refine tl1.go ?_
                  refine tl2.go ?_
                  refine tl3.go ?_
                  refine tl4.go ?_
                  refine tl5.go ?_
                  refine tl6.go ?_
                  refine tl7.go ?_
                  refine al8.ret (HTI.out _) (fun w2 hb2 hHeld => ?_); (try have HP := hp_keep HP hb2); (try have HL := rl_keep HL hb2)
                  refine tl9.go ?_
                  refine tl10.go ?_
                  refine al11.ret (mustq_ok _ _) (fun w2 hb2 hHeld => ?_); (try have HP := hp_keep HP hb2); (try have HL := rl_keep HL hb2)
                  refine al12.ret (HPLs.out _) (fun w2 hb2 hHeld => ?_); (try have HP := hp_keep HP hb2); (try have HL := rl_keep HL hb2)
                  refine tl13.go ?_
                  refine tl14.go ?_
                  refine wpAnyL_ready (rs := [15]) Z280 (by simp) (al15 (fun K hK => ?_) (AllReadyL.nil))
                  focus go_simp
                  ·exact Z287
                 | some x =>
                  obtain ⟨hxe, hxf⟩ := okQ_some hq9
                  rw [hq9, Option.bind_some] at hF
                  have HPLs := Lib.hid (fun W => plus_ok HRF.out HPF.out (by rw [← hxe]; exact hxf) W)
                  rw [← hxe] at HPLs
                  have HFk := Lib.hid hF
                  clear hq9 hxe hxf hF
                  go_wp2_with fail
                  refine wp_region_L 17 (Hd _ wC wC.heap.size) Z280 (⟨Nat.le_refl _, HCC.out.keep (Below.refl _ _).drew, (Below.refl _ _).drew⟩) (fun hHeld => ?_)
                  refine tl0.go ?_
                  refine tl1.go ?_
                  refine tl2.go ?_
                  refine tl3.go ?_
                  refine tl4.go ?_
                  refine tl5.go ?_
                  refine tl6.go ?_
                  refine tl7.go ?_
                  refine al8.ret (HTI.out _) (fun w2 hb2 hHeld => ?_); (try have HP := hp_keep HP hb2); (try have HL := rl_keep HL hb2)
                  refine tl9.go ?_
                  refine tl10.go ?_
                  refine al11.ret (mustq_ok _ _) (fun w2 hb2 hHeld => ?_); (try have HP := hp_keep HP hb2); (try have HL := rl_keep HL hb2)
                  refine al12.ret (HPLs.out _) (fun w2 hb2 hHeld => ?_); (try have HP := hp_keep HP hb2); (try have HL := rl_keep HL hb2)
                  refine tl13.go ?_
                  refine tl14.go ?_
                  refine al15.ret (mustq_ok _ _) (fun w2 hb2 hHeld => ?_); (try have HP := hp_keep HP hb2); (try have HL := rl_keep HL hb2)
                  refine tl16.go ?_
                  refine wpAnyL_ready (rs := [17]) Z280 (by simp) (al17 (fun K hK => ?_) (AllReadyL.nil))
                  focus (obtain ⟨p_, q_, s0, s1, sf0, sf1⟩ := rowQ_st (HRr.out.below (HBC.out.trans (hHeld.below.mono HBC.out.size))) HKI.out; go_simp)
                  refine hK.out _ _ (fun h => absurd rfl h) (fun _ => ?_)
                  focus (clear hK K; refine Zp28 ?_)
                  refine wpAnyL_done Z280 ?_ _; rotate_left 1
                  have HBx := Lib.hid (HBC.out.trans (hHeld.below.mono HBC.out.size))
                  have HEx := Lib.hid ((HEr.out.keep HBx.out).setR' (t := { t with value := val }) hjl HLL.out HEJ.out HKI.out x)
                  have HYx := Lib.hid ((HYr.out.keep HBx.out).set (i := k * 2) (k := k * 2 + 1) HGJ.out (.int .i64 x.num) (.int .i64 x.den))
                  have HNx := Lib.hid (rowQ_far (HNr.out.below HBx.out) (g := gj) (i := k * 2) (k := k * 2 + 1) (fun e => by have h1 := HGJ.out; have h2 := HWO.out; have e' : some gN = some gj := e; injection e' with e'; omega) (.int .i64 x.num) (.int .i64 x.den))
                  generalize (w2.setCell ⟨gj, k * 2, none⟩ (.int .i64 x.num)).setCell ⟨gj, k * 2 + 1, none⟩ (.int .i64 x.den) = wx at HEx HYx HNx ⊢
                  clear s0 s1 sf0 sf1 hHeld hb2
                  go_wp2
                  refine ⟨⟨k + 1, pr ++ [x], hkl, congrArg (Value.int .i64) EWk.out, by rw [List.length_append, HPL.out]; rfl, ?_, by rw [← set_drop HPL.out HK0.out x]; exact HEx.out, HNx.out, HYx.out⟩, ?_⟩
                  ·rw [HFk.out]
                   cases rowF y (R0.drop (k + 1)) (nx.drop (k + 1)) <;> simp
                  ·rw [EWk.out]
                   simp only [intOf, Int.toNat_natCast]
                   exact meas_lt hkl
              ·obtain rfl : k = rowa.length := by omega
               have hd0 : R0.drop rowa.length = [] := List.drop_of_length_le (by rw [HR0.out.1]; exact Nat.le_refl _)
               rw [hd0, show rowF y [] (nx.drop rowa.length) = some [] by rw [rowF]; simp, Option.bind_some, List.append_nil] at hF
               rw [hd0, List.append_nil] at hE
               have hFF := HF.out
               rw [hF, Option.bind_some] at hFF
               have HFF := Lib.hid hFF
               have HEr := Lib.hid hE
               have HNr := Lib.hid hN
               clear hF hE hN hY hFF hd0 hpl
               go_wp2
               refine ⟨⟨j + 1, rw' ++ [pr], hjl, congrArg (Value.int .i64) EW.out, by rw [List.length_append, HRL.out]; rfl, ?_, by rw [← set_drop HRL.out HJR.out pr]; exact HEr.out, HNr.out⟩, ?_⟩
               ·rw [HFF.out]
                cases rowsF v a nx (j + 1) (t.rows.drop (j + 1)) <;> simp
               ·rw [EW.out]
                simp only [intOf, Int.toNat_natCast]
                exact meas_lt hjl
          ·obtain rfl : j = rs.length := by omega
           have hd0 : t.rows.drop rs.length = [] := List.drop_of_length_le (by rw [HNN.out]; exact Nat.le_refl _)
           rw [hd0, rowsF, Option.bind_some, List.append_nil] at hF
           rw [hd0, List.append_nil] at hE
           have hX := HX.out
           rw [hF, Option.bind_some] at hX
           have HEf := Lib.hid hE
           have HNf := Lib.hid hN
           subst hX
           have hgB := (own_blk_ty hE.tab.basic (g := gB) rfl)
           have hgR := (own_blk_ty hE.tab.rows (g := gR) rfl)
           have htB : tb ≠ gB := hE.tab.tb_ne hE.tab.basic (by decide) rfl
           have htR : tb ≠ gR := hE.tab.tb_ne hE.tab.rows (by decide) rfl
           have hBR : gB ≠ gR := fun e => own_ne_ty hE.tab.basic hE.tab.rows (by decide) rfl (by rw [← e]; rfl)
           have s0 := rowN_in hE.tab.basic hab
           obtain ⟨cb, hcb, hlB⟩ := hgB
           obtain ⟨cr, hcr, hlR⟩ := hgR
           have sf0 : wi.frozen? ⟨gB, a, none⟩ = false := blk_frozen hcb a
           have t0 : (wi.setCell ⟨gB, a, none⟩ (.int .i64 (v : Int))).cell? ⟨gR, a, none⟩ = some rs[a] := by
            rw [World.cell?_of_block (Below.heap_setCell wi ⟨gB, a, none⟩ _ gR (fun e => hBR e.symm))]
            exact rowS_at hE.tab.rows har
           have tf0 : (wi.setCell ⟨gB, a, none⟩ (.int .i64 (v : Int))).frozen? ⟨gR, a, none⟩ = false := blk_frozen (blk_far hcr (p := ⟨gB, a, none⟩) (fun e => hBR e.symm) _) a
           have HD0 := Lib.hid (show Hd [(⟨tb, 1, none⟩, .slice (some ⟨gB, 0, none⟩) t.basic.length cB), (⟨tb, 2, none⟩, .slice (some ⟨gR, 0, none⟩) rs.length cR)] wi base wi from ⟨hE.size, ⟨blk_cell hE.tab.box 1, blk_cell hE.tab.box 2, trivial⟩, Below.refl _ _⟩)
           have HNE := Lib.hid (And.intro htB (And.intro hlB hlR))
           clear hE hN hF hd0 hcb hcr hlB hlR htB htR hBR
           go_wp2_with fail
           refine wp_region_L 15 (Hd _ wi base) Z280 (HD0.out.drew) (fun hHeld => ?_)
           refine tl0.go ?_
           refine tl1.go ?_
           refine tl2.go ?_
           refine tl3.go ?_
           refine tl4.go ?_
           refine tl5.go ?_
           refine tl6.go ?_
           refine tl7.go ?_
           refine tl8.go ?_
           refine tl9.go ?_
           refine tl10.go ?_
           refine tl11.go ?_
           refine tl12.go ?_
           refine wpAnyL_ready (rs := [13]) Z280 (by simp) (al13 (fun K hK => ?_) (AllReadyL.nil))
           focus (go_simp)
           refine hK.out _ _ (fun _ => ?_) (fun hHeld => ?_)
           ·exact (HD0.out.put1 HNE.out.1 HNE.out.2.1 _).drew
           focus (have hHeld := hHeld (by decide); clear hK K; refine Zp28 ?_)
           refine tl14.go ?_
           refine wpAnyL_ready (rs := [15]) Z280 (by simp) (al15 (fun K hK => ?_) (AllReadyL.nil))
           focus (go_simp)
           refine hK.out _ _ (fun h => absurd rfl h) (fun _ => ?_)
           focus (clear hK K; refine Zp28 ?_)
           refine wpAnyL_done Z280 ?_ _; rotate_left 1
           go_wp2
           simp [bodyPost, results, Tryz.results58, go_sem]
           refine ⟨⟨rfl, _, (HEf.out.tab.setS har (own_less HNf.out HBO.out) HUV.out HUL.out HUR.out).below (Below.refl _ _).drew⟩, ?_⟩
           refine Below.drew ?_
           refine Below.setCell ?_ HNE.out.2.2 _
           exact Below.setCell HEf.out.below HNE.out.2.1 _
end Go.Proofs.YtbpjnkeilhfajaaGreat.Ln
