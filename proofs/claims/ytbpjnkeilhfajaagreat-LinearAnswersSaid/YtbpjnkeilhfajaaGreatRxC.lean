/- ashlarref11.right, holds, walked. -/
import Derived.Test.YtbpjnkeilhfajaaGreatRxX
import Derived.Test.YtbpjnkeilhfajaaGreatTl
import Derived.Test.YtbpjnkeilhfajaaGreatRxA
import Derived.Test.YtbpjnkeilhfajaaGreatLnD
import Derived.Test.YtbpjnkeilhfajaaGreatRefSum
namespace Go.Proofs
theorem Zpp6 {p q : Prop} (hq : q) (h : p = q := by first | (simp only [Act.put, List.setIfInBounds_toArray, List.set_cons_zero, List.set_cons_succ]; done) | (simp only [Act.put, List.setIfInBounds_toArray, List.set_cons_zero, List.set_cons_succ]; rfl) | rfl) : p := Eq.mpr h hq
end Go.Proofs
namespace Go.Proofs.YtbpjnkeilhfajaaGreat.Rw
open Go.RowKit Go.Proofs.YtbpjnkeilhfajaaGreat.Given Go.Proofs.YtbpjnkeilhfajaaGreatW.PrintWords Go.Proofs.YtbpjnkeilhfajaaGreatW.PrintLast Go.Proofs.YtbpjnkeilhfajaaGreat.Dig Go.Proofs.YtbpjnkeilhfajaaGreat.DigNumReckons Go.Proofs.YtbpjnkeilhfajaaGreat.Num Go.Proofs.YtbpjnkeilhfajaaGreat.Big Go.Proofs.YtbpjnkeilhfajaaGreat.Ln Go.Proofs.YtbpjnkeilhfajaaGreat.Lin
set_option linter.unusedVariables false
set_option linter.unusedSimpArgs false
set_option maxHeartbeats 4000000 in
theorem right11_any (p q : Int) (w : World) (hp : In64 p) (hq : In64 q) : Calls Tryz.prog 89 #[.agg #[.int .i64 p, .int .i64 q]] w fun e w' => e = .returned (.bool (rightPQ p q)) ∧ Below w.heap.size w w' := by
 obtain ⟨res, hres⟩ : ∃ res, rightPQ p q = res := ⟨_, rfl⟩
 rw [hres]
 unfold rightPQ at hres
 obtain ⟨⟨x, y, b⟩, hm⟩ : ∃ r, mk p q = r := ⟨_, rfl⟩
 rw [hm] at hres
 have HRES := Lib.hid hres
 clear hres
 have HM := Lib.hid hm
 have HPQ := Lib.hid (And.intro hp hq)
 clear hm hp hq
 go_enter Tryz.func89, Tryz.ntmps89
 go_wp2_with fail
 obtain ⟨wa, hwa⟩ : ∃ wa, w.alloc (.cells #[.int .i64 p, .int .i64 q] 107) = wa := ⟨_, rfl⟩
 have HD0 := Lib.hid (show Below w.heap.size w wa by rw [← hwa]; exact (Below.refl _ _).alloc (Nat.le_refl _) _)
 have pb := Lib.hid (show Cells [(⟨w.heap.size, 0, none⟩, .int .i64 p), (⟨w.heap.size, 1, none⟩, .int .i64 q)] wa from by rw [← hwa]; exact ⟨blk_cell (blk_new w _) 0, blk_cell (blk_new w _) 1, trivial⟩)
 have HSZ := Lib.hid (show w.heap.size < wa.heap.size by rw [← hwa]; simp)
 rw [hwa]
 clear hwa
 refine wp_region_L 13 (Hd _ wa wa.heap.size) (by kernel_rfl) (⟨Nat.le_refl _, pb.out.keep (Below.refl _ _).drew, (Below.refl _ _).drew⟩) (fun hHeld => ?_)
 refine tl0.go ?_
 refine tl1.go ?_
 refine tl3.go ?_
 refine tl4.go ?_
 refine wpAnyL_ready (rs := [2]) (by kernel_rfl) (by simp) (al2 (fun K hK => ?_) (AllReadyL.nil))
 focus go_simp
 focus (refine (Of_big HPQ.out.1 _).mono ?_; rintro e w2 ⟨A1, n1, c1, rfl, hR1, hb2⟩; have HR1 := Lib.hid hR1)
 focus try simp only []
 refine hK.out _ _ (fun _ => ?_) (fun hHeld => ?_)
 ·exact hHeld.keep hb2
 focus (have hHeld := hHeld (by decide); clear hK K; refine Zpp6 ?_)
 refine wpAnyL_ready (rs := [5]) (by kernel_rfl) (by simp) (al5 (fun K hK => ?_) (AllReadyL.nil))
 focus go_simp
 focus (refine (Of_big HPQ.out.2 _).mono ?_; rintro e w2 ⟨A2, n2, c2, rfl, hR2, hb2⟩; have HR1 := Lib.hid (HR1.out.below hb2); have HR2 := Lib.hid hR2)
 focus try simp only []
 refine hK.out _ _ (fun _ => ?_) (fun hHeld => ?_)
 ·exact hHeld.keep hb2
 focus (have hHeld := hHeld (by decide); clear hK K; refine Zpp6 ?_)
 refine al6.ret (Make_big _ HR1.out HR2.out (len1 HPQ.out.1) (len1 HPQ.out.2) HM.out) (fun w2 hb2 hHeld => ?_)
 refine tl7.go ?_
 refine tl8.go ?_
 refine tl9.go ?_
 refine tl10.go ?_
 refine tl11.go ?_
 refine tl12.go ?_
 refine wpAnyL_ready (rs := [13]) (by kernel_rfl) (by simp) (al13 (fun K hK => ?_) (AllReadyL.nil))
 focus go_simp
 refine hK.out _ _ (fun h => absurd rfl h) (fun _ => ?_)
 focus (clear hK K; refine Zpp6 ?_)
 refine wpAnyL_done (by kernel_rfl) ?_ _; rotate_left 1
 have HB := Lib.hid (HD0.out.trans (hHeld.below.mono HD0.out.size))
 have x0 := hHeld.cells.1
 have x1 := hHeld.cells.2.1
 clear hHeld HR1 HR2 HM HPQ hb2 pb HD0
 cases b with
 | false =>
  obtain rfl : res = false := by rw [← HRES.out]; rfl
  go_wp2
  go_ret
  exact ⟨rfl, HB.out⟩
 | true =>
  by_cases h1 : x = p
  ·subst h1
   by_cases h2 : y = q
   ·subst h2
    obtain rfl : res = true := by rw [← HRES.out]; simp
    go_wp2
    go_ret
    exact ⟨rfl, HB.out⟩
   ·obtain rfl : res = false := by rw [← HRES.out]; simp; omega
    have e2 : (y == q) = false := by simp; omega
    go_wp2
    go_ret
    exact ⟨rfl, HB.out⟩
  ·obtain rfl : res = false := by rw [← HRES.out, show (p == (x, y, true).1) = false by simp; omega]; rfl
   have e2 : (x == p) = false := by simp; omega
   go_wp2
   go_ret
   exact ⟨rfl, HB.out⟩
theorem sum_q {x y : Rat} (hx : Fit x) (hy : Fit y) {a b : Int} {t : Bool} (h : mkQ (x + y) = (a, b, t)) (w : World) :
  Calls Tryz.prog 122 #[.int .i64 x.num, .int .i64 x.den, .int .i64 y.num, .int .i64 y.den, .bool false] w fun e w' => e = .returned (.tuple #[.int .i64 a, .int .i64 b, .bool t]) ∧ Below w.heap.size w w' := by
 refine Sum_no w (fit64 hx).1 (fit64 hx).2 (fit64 hy).1 (fit64 hy).2 ?_
 rw [← h]
 refine mk_q (mul_ne (ne_den x) (ne_den y)) ?_
 rw [Rat.intCast_add, Rat.intCast_mul, Rat.intCast_mul, Rat.intCast_mul, ← num_eq x, ← num_eq y]
 grind
theorem prod_q {c : Int} {x : Rat} (hc : In64 c) (hx : Fit x) {a b : Int} {t : Bool} (h : mkQ ((c : Rat) * x) = (a, b, t)) (w : World) :
  Calls Tryz.prog 121 #[.int .i64 c, .int .i64 1, .int .i64 x.num, .int .i64 x.den] w fun e w' => e = .returned (.tuple #[.int .i64 a, .int .i64 b, .bool t]) ∧ Below w.heap.size w w' := by
 refine Product_big w hc (by decide) (fit64 hx).1 (fit64 hx).2 ?_
 rw [← h]
 refine mk_q (mul_ne (by decide) (ne_den x)) ?_
 rw [Rat.intCast_mul, Rat.intCast_mul, ← num_eq x]
 grind
theorem okQ_none {x : Rat} {a b : Int} (h : mkQ x = (a, b, false)) : okQ x = none := by
 unfold mkQ at h
 by_cases hf : Fit x
 ·rw [if_pos hf] at h; cases h
 ·exact if_neg hf
theorem okQ_some {x : Rat} {a b : Int} (h : mkQ x = (a, b, true)) : Fit x ∧ a = x.num ∧ b = (x.den : Int) := by
 unfold mkQ at h
 by_cases hf : Fit x
 ·rw [if_pos hf] at h; cases h; exact ⟨hf, rfl, rfl⟩
 ·rw [if_neg hf] at h; cases h
theorem num_le0 {x : Rat} : x.num ≤ 0 ↔ x ≤ 0 := by rw [Rat.le_iff]; simp
def okQE (o : Option Rat) : Bool := match o with
 | some s => decide (s ≤ 0)
 | none => false
set_option maxHeartbeats 16000000 in
set_option maxRecDepth 100000 in
theorem holds11_any (l : List Int) (k : Int) (xs : List Rat) (A A' : Option Addr) (c c' : Nat) (w : World) (hl : l.length = xs.length) (hC : (Kd.int .i64).C w A l.length l) (hX : Kd.C k28 w A' (xs.map ofQ).length (xs.map ofQ))
  (hk : In64 k) (hin : ∀ x, x ∈ l → In64 x) (hfit : ∀ x, x ∈ xs → Fit x) :
  Calls Tryz.prog 90 #[.agg #[.slice A l.length c, .int .i64 k], .slice A' xs.length c'] w fun e w' => e = .returned (.bool (okQE (holdF l xs (k : Rat)))) ∧ Below w.heap.size w w' := by
 obtain ⟨o, ho⟩ : ∃ o, holdF l xs (k : Rat) = o := ⟨_, rfl⟩
 obtain ⟨res, hres⟩ : ∃ res, okQE o = res := ⟨_, rfl⟩
 rw [ho, hres]
 have HC := Lib.hid hC
 have HX := Lib.hid hX
 have HI := Lib.hid hin
 have HF := Lib.hid hfit
 have HL := Lib.hid hl
 have HO := Lib.hid ho
 have HRES := Lib.hid hres
 have HK := Lib.hid (int_fit hk)
 have HKK := Lib.hid (show (k : Rat).num = k ∧ ((k : Rat).den : Int) = 1 from ⟨Rat.num_intCast k, by rw [Rat.den_intCast]; rfl⟩)
 have HLP := Lib.hid (show xs.length ≤ 9223372036854775807 by have := Kd.C_max hX; rw [List.length_map] at this; exact this)
 rw [hl]
 clear hC hX hin hfit ho hres hk hl
 go_enter Tryz.func90, Tryz.ntmps90
 go_wp2
 obtain ⟨wa, hwa⟩ : ∃ wa, w.alloc (.cells #[.slice A xs.length c, .int .i64 k] 40) = wa := ⟨_, rfl⟩
 have HD0 := Lib.hid (show Below w.heap.size w wa by rw [← hwa]; exact (Below.refl _ _).alloc (Nat.le_refl _) _)
 have pb := Lib.hid (show Cells [(⟨w.heap.size, 0, none⟩, .slice A xs.length c)] wa from by rw [← hwa]; exact ⟨blk_cell (blk_new w _) 0, trivial⟩)
 have HSZ := Lib.hid (show w.heap.size < wa.heap.size by rw [← hwa]; simp)
 rw [hwa]
 clear hwa
 go_loopw [5, 6, 7] (fun v5 v6 v7 wq => ∃ (i : Nat) (s : Rat), i ≤ xs.length ∧ v5 = .int .i64 s.num ∧ v6 = .int .i64 s.den ∧ v7 = .int .i64 i ∧ Fit s ∧ holdF (l.drop i) (xs.drop i) s = o ∧ Below wa.heap.size wa wq) (fun _ _ v7 _ => xs.length - (intOf v7).toNat)
 case atStart => exact ⟨0, (k : Rat), Nat.zero_le _, congrArg (Value.int .i64) HKK.out.1.symm, congrArg (Value.int .i64) HKK.out.2.symm, rfl, HK.out, by rw [List.drop_zero, List.drop_zero]; exact HO.out, Below.refl _ _⟩
 case round =>
  obtain ⟨i, s, hi, rfl, rfl, rfl, hs, hw, hbq⟩ := hrel
  by_cases hil : i < xs.length
  ·have e1 : (i < xs.length) = True := eq_true hil
   have hir : i < l.length := by rw [HL.out]; exact hil
   have hiq : i < (xs.map ofQ).length := by rw [List.length_map]; exact hil
   have HWB := Lib.hid (HD0.out.trans (hbq.mono HD0.out.size))
   obtain ⟨ar, rfl, s0⟩ := i64_at HC.out hir
   obtain ⟨ap, rfl, s1, s2⟩ := el_Q HX.out hiq
   have hx := HI.out _ (List.getElem_mem hir)
   have hy := HF.out _ (List.getElem_mem hil)
   rw [List.drop_eq_getElem_cons hir, List.drop_eq_getElem_cons hil, holdF] at hw
   rw [List.getElem_map] at s1 s2
   obtain ⟨x, hxe⟩ : ∃ x, l[i] = x := ⟨_, rfl⟩
   obtain ⟨y, hye⟩ : ∃ y, xs[i] = y := ⟨_, rfl⟩
   rw [hxe] at s0 hx hw
   rw [hye] at s1 s2 hy hw
   obtain ⟨pa, pq, one, hpv⟩ : ∃ a b t, mkQ ((x : Rat) * y) = (a, b, t) := ⟨_, _, _, rfl⟩
   have HX2 := Lib.hid (And.intro hx hy)
   have HP2 := Lib.hid hpv
   obtain ⟨z, hz⟩ : ∃ z, (x : Rat) * y = z := ⟨_, rfl⟩
   rw [hz] at hw hpv
   have HV := Lib.hid hpv
   clear hz
   have HS := Lib.hid hs
   have HW := Lib.hid hw
   have HJ := Lib.hid (And.intro hi hil)
   have HBQ := Lib.hid hbq
   have EWj := Lib.hid (wrapj (show i + 1 < 9223372036854775808 by have := HLP.out; omega))
   have HC0 := Lib.hid (show Cells [(⟨w.heap.size, 0, none⟩, .slice (some ar) xs.length c), (ar.add i, .int .i64 x), (ap.add (i * 2), .int .i64 y.num), (⟨(ap.add (i * 2)).block, (ap.add (i * 2)).off + 1, none⟩, .int .i64 y.den)] wr from ⟨kcell hbq pb.out.1, kcell HWB.out s0, kcell HWB.out s1, kcell HWB.out s2, trivial⟩)
   have p0 := HC0.out.1
   clear hxe hye hx hy hpv hw hi hil hir hiq hbq hs s0 s1 s2
   go_wp2_with fail
   refine wp_region_L 22 (Hd _ wr wr.heap.size) (by kernel_rfl) (⟨Nat.le_refl _, HC0.out.keep (Below.refl _ _).drew, (Below.refl _ _).drew⟩) (fun hHeld => ?_)
   refine tl0.go ?_
   refine tl1.go ?_
   refine tl2.go ?_
   refine tl3.go ?_
   refine tl4.go ?_
   refine tl5.go ?_
   refine tl6.go ?_
   refine tl7.go ?_
   refine tl8.go ?_
   refine tl9.go ?_
   refine tl10.go ?_
   refine tl11.go ?_
   refine tl12.go ?_
   refine tl13.go ?_
   refine tl14.go ?_
   refine al15.ret (prod_q HX2.out.1 HX2.out.2 HP2.out _) (fun w2 hb2 hHeld => ?_); (try have HL := rl_keep HL hb2); (try have HI := ri_keep HI hb2)
   refine tl16.go ?_
   refine tl17.go ?_
   refine tl18.go ?_
   refine tl19.go ?_
   refine tl20.go ?_
   refine tl21.go ?_
   refine wpAnyL_ready (rs := [22]) (by kernel_rfl) (by simp) (al22 (fun K hK => ?_) (AllReadyL.nil))
   focus go_simp
   refine hK.out _ _ (fun h => absurd rfl h) (fun _ => ?_)
   focus (clear hK K; refine Zpp6 ?_)
   refine wpAnyL_done (by kernel_rfl) ?_ _; rotate_left 1
   have HB1 := Lib.hid (HBQ.out.trans (hHeld.below.mono HBQ.out.size))
   have hw := HW.out
   clear hHeld HBQ HC0 p0
   cases one with
   | false =>
    rw [show okQ z = none from okQ_none HV.out, Option.bind_none] at hw
    subst hw
    obtain rfl : res = false := HRES.out.symm
    go_wp2
    go_ret
    exact ⟨rfl, HD0.out.trans (HB1.out.mono HD0.out.size)⟩
   | true =>
    obtain ⟨hf, rfl, rfl⟩ := okQ_some HV.out
    rw [okQ_fit hf, Option.bind_some] at hw
    obtain ⟨sa, sq, two, hsv⟩ : ∃ a b t, mkQ (s + z) = (a, b, t) := ⟨_, _, _, rfl⟩
    have HSV := Lib.hid hsv
    have HFZ := Lib.hid hf
    have HW2 := Lib.hid hw
    clear hf hw hsv HP2
    go_wp2_with fail
    refine (sum_q HS.out HFZ.out HSV.out _).mono ?_
    rintro e w3 ⟨rfl, hb3⟩
    have HB2 := Lib.hid (HB1.out.trans (hb3.mono HB1.out.size))
    have hw := HW2.out
    clear hb3 HB1
    cases two with
    | false =>
     rw [show okQ (s + z) = none from okQ_none HSV.out, Option.bind_none] at hw
     subst hw
     obtain rfl : res = false := HRES.out.symm
     go_wp2
     go_ret
     exact ⟨rfl, HD0.out.trans (HB2.out.mono HD0.out.size)⟩
    | true =>
     obtain ⟨hf, rfl, rfl⟩ := okQ_some HSV.out
     rw [okQ_fit hf, Option.bind_some] at hw
     have HFS := Lib.hid hf
     have HW3 := Lib.hid hw
     clear hw hf
     go_wp2
     refine ⟨⟨i + 1, s + z, HJ.out.2, rfl, rfl, congrArg (Value.int .i64) EWj.out, HFS.out, HW3.out, HB2.out⟩, ?_⟩
     rw [EWj.out]
     simp only [intOf, Int.toNat_natCast]
     exact meas_lt HJ.out.2
  ·have hi' : i = xs.length := by omega
   subst i
   rw [List.drop_length, List.drop_of_length_le (Nat.le_of_eq HL.out)] at hw
   have hw' : some s = o := hw
   subst hw'
   have e1 : (xs.length < xs.length) = False := eq_false (Nat.lt_irrefl _)
   have p0 := kcell hbq pb.out.1
   have HB1 := Lib.hid (HD0.out.trans (hbq.mono HD0.out.size))
   clear hw hbq hi hil hs
   by_cases h0 : s.num ≤ 0
   ·have e5 : (s.num ≤ 0) = True := eq_true h0
    obtain rfl : res = true := by rw [← HRES.out]; exact decide_eq_true (num_le0.1 h0)
    clear h0
    go_wp2
    go_ret
    exact ⟨rfl, HB1.out⟩
   ·have e5 : (s.num ≤ 0) = False := eq_false h0
    obtain rfl : res = false := by rw [← HRES.out]; exact decide_eq_false (fun h => h0 (num_le0.2 h))
    clear h0
    go_wp2
    go_ret
    exact ⟨rfl, HB1.out⟩
end Go.Proofs.YtbpjnkeilhfajaaGreat.Rw
