/- ashlarlaw11.same, walked: rows are the same as themselves. -/
import Derived.Test.YtbpjnkeilhfajaaGreatRxY
import Derived.Test.YtbpjnkeilhfajaaGreatTl
import Derived.Test.YtbpjnkeilhfajaaGreatRxA
namespace Go.Proofs.YtbpjnkeilhfajaaGreat.Rw
open Go.RowKit Go.Proofs.YtbpjnkeilhfajaaGreat.Given Go.Proofs.YtbpjnkeilhfajaaGreatW.PrintWords Go.Proofs.YtbpjnkeilhfajaaGreatW.PrintLast Go.Proofs.YtbpjnkeilhfajaaGreat.Num Go.Proofs.YtbpjnkeilhfajaaGreat.Ln Go.Proofs.YtbpjnkeilhfajaaGreat.Lin
set_option linter.unusedVariables false
set_option linter.unusedSimpArgs false
set_option maxHeartbeats 8000000 in
set_option maxRecDepth 100000 in
theorem same11_any (l : List S40) (A A' : Option Addr) (c c' : Nat) (w : World) (hC : Kd.C k40 w A l.length l) (hC' : Kd.C k40 w A' l.length l) :
  Calls Tryz.prog 20 #[.slice A l.length c, .slice A' l.length c'] w fun e w' => e = .returned (.bool true) ∧ Below w.heap.size w w' := by
 have HC := Lib.hid hC
 have HD := Lib.hid hC'
 have HMAX := Lib.hid (show l.length ≤ 9223372036854775807 from Kd.C_max hC)
 have eb : ((l.length : Int) != (l.length : Int)) = false := by simp
 clear hC hC'
 go_enter Tryz.func20, Tryz.ntmps20
 go_wp2
 go_loopw [5] (fun v5 wr => ∃ i : Nat, i ≤ l.length ∧ v5 = .int .i64 i ∧ Hid (Below w.heap.size w wr)) (fun v5 _ => l.length - (intOf v5).toNat)
 case atStart => exact ⟨0, Nat.zero_le _, rfl, Lib.hid (Below.refl _ _)⟩
 case round =>
  obtain ⟨i, hi, rfl, HB⟩ := hrel
  by_cases hil : i < l.length
  ·have e1 : (i < l.length) = True := eq_true hil
   obtain ⟨ad, A0, c0, rfl, z0, z1, hc0, hrow⟩ := row_at HC.out hil
   obtain ⟨ae, A1, c1, rfl, y0, y1, hc1, hrow1⟩ := row_at HD.out hil
   obtain ⟨r, hr⟩ : ∃ r, l[i] = r := ⟨_, rfl⟩
   rw [hr] at z0 z1 hrow y0 y1 hrow1
   have HR := Lib.hid hrow
   have HS := Lib.hid hrow1
   have HI := Lib.hid (And.intro hi hil)
   have EW := Lib.hid (wrapj (show i + 1 < 9223372036854775808 by have := HMAX.out; omega))
   obtain ⟨n, hn⟩ : ∃ n, r.f0.length = n := ⟨_, rfl⟩
   have HN := Lib.hid hn
   have HNM := Lib.hid (show n ≤ 9223372036854775807 by rw [← hn]; exact Kd.C_max hrow)
   rw [hn] at z0 y0
   have f1 : (r.f1 != r.f1) = false := by simp
   have f2 : ((n : Int) != (n : Int)) = false := by simp
   have HCe := Lib.hid (show Cells [(ad.add (i * 2), .slice A0 n c0), (⟨(ad.add (i * 2)).block, (ad.add (i * 2)).off + 1, none⟩, .int .i64 r.f1), (ae.add (i * 2), .slice A1 n c1), (⟨(ae.add (i * 2)).block, (ae.add (i * 2)).off + 1, none⟩, .int .i64 r.f1)] wr from ⟨kcell HB.out z0, kcell HB.out z1, kcell HB.out y0, kcell HB.out y1, trivial⟩)
   clear hc0 hc1 hrow hrow1 hr hi hil hn
   go_wp2_with fail
   refine wp_region_L 25 (Hd _ wr wr.heap.size) (by kernel_rfl) (⟨Nat.le_refl _, HCe.out.keep (Below.refl _ _).drew, (Below.refl _ _).drew⟩) (fun hHeld => ?_)
   refine tl0.go ?_
   refine tl1.go ?_
   refine tl2.go ?_
   refine tl3.go ?_
   refine tl4.go ?_
   refine tl5.go ?_
   refine tl6.go ?_
   refine tl7.go ?_
   refine tl8.go ?_
   refine tl9.go ?_
   refine tl10.go ?_
   refine tl11.go ?_
   first | refine tl12.go ?_ | refine ul12.go ?_
   first | refine tl13.go ?_ | refine ul13.go ?_
   first | refine tl14.go ?_ | refine ul14.go ?_
   first | refine tl15.go ?_ | refine ul15.go ?_
   first | refine tl16.go ?_ | refine ul16.go ?_
   first | refine tl17.go ?_ | refine ul17.go ?_
   first | refine tl18.go ?_ | refine ul18.go ?_
   first | refine tl19.go ?_ | refine ul19.go ?_
   first | refine tl20.go ?_ | refine ul20.go ?_
   first | refine tl21.go ?_ | refine ul21.go ?_
   first | refine tl22.go ?_ | refine ul22.go ?_
   first | refine tl23.go ?_ | refine ul23.go ?_
   first | refine tl24.go ?_ | refine ul24.go ?_
   refine wpAnyL_ready (rs := [25]) (by kernel_rfl) (by simp) (al25 (fun K hK => ?_) (AllReadyL.nil))
   focus go_simp
   refine hK.out _ _ (fun h => absurd rfl h) (fun _ => ?_)
   focus (clear hK K; try simp only [Act.put, List.setIfInBounds_toArray, List.set_cons_zero, List.set_cons_succ])
   refine wpAnyL_done (by kernel_rfl) ?_ _; rotate_left 1
   obtain ⟨wo, hwo⟩ : ∃ wo, wr.drew = wo := ⟨_, rfl⟩
   have HBo := Lib.hid (show Below w.heap.size w wo by rw [← hwo]; exact HB.out.drew)
   rw [hwo]
   clear hHeld hwo HCe HB
   have q0 := kcell HBo.out z0
   have q2 := kcell HBo.out y0
   go_wp2
   go_loopw [6] (fun v6 wr => ∃ k : Nat, k ≤ n ∧ v6 = .int .i64 k ∧ Hid (Below w.heap.size w wr)) (fun v6 _ => n - (intOf v6).toNat)
   case atStart => exact ⟨0, Nat.zero_le _, rfl, HBo⟩
   case round =>
    obtain ⟨k, hk, rfl, HBK⟩ := hrel
    clear q0 q2
    have q0 := kcell HBK.out z0
    have q2 := kcell HBK.out y0
    by_cases hkn : k < n
    ·have e2 : (k < n) = True := eq_true hkn
     have hkr : k < r.f0.length := by rw [HN.out]; exact hkn
     obtain ⟨ar, rfl, s0⟩ := i64_at HR.out hkr
     obtain ⟨as', rfl, s1⟩ := i64_at HS.out hkr
     obtain ⟨x, hx⟩ : ∃ x, r.f0[k] = x := ⟨_, rfl⟩
     rw [hx] at s0 s1
     replace s0 := kcell HBK.out s0
     replace s1 := kcell HBK.out s1
     have f3 : (x != x) = false := by simp
     have HK := Lib.hid (And.intro hk hkn)
     have EK := Lib.hid (wrapj (show k + 1 < 9223372036854775808 by have := HNM.out; omega))
     have HCk := Lib.hid (show Cells [(ad.add (i * 2), .slice (some ar) n c0), (ar.add k, .int .i64 x), (ae.add (i * 2), .slice (some as') n c1), (as'.add k, .int .i64 x)] wr from ⟨q0, s0, q2, s1, trivial⟩)
     clear hk hkn hx hkr
     go_wp2_with fail
     refine wp_region_L 16 (Hd _ wr wr.heap.size) (by kernel_rfl) (⟨Nat.le_refl _, HCk.out.keep (Below.refl _ _).drew, (Below.refl _ _).drew⟩) (fun hHeld => ?_)
     refine tl0.go ?_
     refine tl1.go ?_
     refine tl2.go ?_
     refine tl3.go ?_
     refine tl4.go ?_
     refine tl5.go ?_
     refine tl6.go ?_
     refine tl7.go ?_
     refine tl8.go ?_
     refine tl9.go ?_
     refine tl10.go ?_
     refine tl11.go ?_
     refine tl12.go ?_
     refine tl13.go ?_
     refine tl14.go ?_
     refine tl15.go ?_
     refine wpAnyL_ready (rs := [16]) (by kernel_rfl) (by simp) (al16 (fun K hK => ?_) (AllReadyL.nil))
     focus go_simp
     refine hK.out _ _ (fun h => absurd rfl h) (fun _ => ?_)
     focus (clear hK K; try simp only [Act.put, List.setIfInBounds_toArray, List.set_cons_zero, List.set_cons_succ])
     refine wpAnyL_done (by kernel_rfl) ?_ _; rotate_left 1
     have HBL := Lib.hid (HBK.out.trans (hHeld.below.mono HBK.out.size))
     clear hHeld HCk
     go_wp2
     refine ⟨⟨k + 1, HK.out.2, congrArg (Value.int .i64) EK.out, HBL⟩, ?_⟩
     rw [EK.out]
     simp only [intOf, Int.toNat_natCast]
     exact meas_lt HK.out.2
    ·have hk' : k = n := by omega
     subst k
     have e2 : (n < n) = False := eq_false (Nat.lt_irrefl _)
     clear hk hkn
     go_wp2
     refine ⟨⟨i + 1, HI.out.2, congrArg (Value.int .i64) EW.out, HBK⟩, ?_⟩
     rw [EW.out]
     simp only [intOf, Int.toNat_natCast]
     exact meas_lt HI.out.2
  ·have hi' : i = l.length := by omega
   subst i
   have e1 : (l.length < l.length) = False := eq_false (Nat.lt_irrefl _)
   clear hi hil
   go_wp2
   go_ret
   exact ⟨rfl, HB.out⟩
end Go.Proofs.YtbpjnkeilhfajaaGreat.Rw
