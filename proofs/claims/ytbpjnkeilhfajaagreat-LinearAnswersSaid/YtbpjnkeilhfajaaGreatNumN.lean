import Derived.Test.YtbpjnkeilhfajaaGreatTk
import Derived.Test.YtbpjnkeilhfajaaGreatNumM
import Derived.Test.YtbpjnkeilhfajaaGreatNumJ
section
/- The closure of num's sum, where it does not fit. -/
namespace Go.Proofs
theorem Zp2r {p q : Prop} (hq : q) (h : p = q := by first | (simp only [Act.put, List.setIfInBounds_toArray, List.set_cons_zero, List.set_cons_succ]; done) | (simp only [Act.put, List.setIfInBounds_toArray, List.set_cons_zero, List.set_cons_succ]; rfl) | rfl) : p := Eq.mpr h hq
theorem Z2r0 {p : Prop} (h : p := by kernel_rfl) : p := h
theorem Z2r1 {p : Prop} (h : p := by (simp [go_sem, ca1, cb1, la, lb]; done)) : p := h
theorem Z2r2 {p : Prop} (h : p := by (simp [go_sem, ca1, cb, la, lb, la1, lb1, la2, lb2]; done)) : p := h
theorem Z2r8 {p : Prop} (h : p := by first | exact Nat.le_refl _ | (simp; done) | (simp; omega) | omega) : p := h
theorem Z2r3 {p : Prop} (h : p := by repeat (first | exact Below.refl _ _ | with_reducible assumption | refine Below.alloc ?_ Z2r8 _ | refine Below.setCell ?_ Z2r8 _ | refine Below.drew ?_ | refine bdrewN ?_ _)) : p := h
theorem Z2r9 {p : Prop} (h : p := by simp [go_sem, ca', cb1', x0, x1, x2, la', lb', kz, la3, lb3, kz3, la4, lb4, kz4]; done) : p := h
theorem Z2r4 {p : Prop} (h : p := by (first | (with_reducible refine ⟨?_, ?_, ?_, ?_, ?_⟩ <;> with_reducible exact keepcell (by with_reducible assumption) Z2r9) | (with_reducible refine ⟨?_, ?_, ?_, ?_, ?_⟩ <;> with_reducible exact keepalloc (keepcell (by with_reducible assumption) Z2r9)) | (with_reducible refine ⟨?_, ?_, ?_, ?_, ?_⟩ <;> with_reducible exact keepset (by omega) (keepset (by omega) (keepset (by omega) (keepcell (by with_reducible assumption) Z2r9)))) | (simp [go_sem, ca', cb1', x0, x1, x2, la', lb', kz, la3, lb3, kz3, la4, lb4, kz4]; done))) : p := h
theorem Z2r5 {p : Prop} (h : p := by first | exact Nat.le_refl _ | (simp; done) | (simp; omega) | omega) : p := h
theorem Z2ra {p : Prop} (h : p := by repeat (first | exact Below.refl _ _ | with_reducible assumption | refine Below.alloc ?_ (by first | exact Nat.le_refl _ | (simp; done) | (simp; omega) | omega) _ | refine Below.setCell ?_ (by first | exact Nat.le_refl _ | (simp; done) | (simp; omega) | omega) _ | refine Below.drew ?_ | refine bdrewN ?_ _)) : p := h
theorem Z2r6 {p : Prop} (h : p := by (first | with_reducible exact ⟨keepset (by omega) (keepset (by omega) (keepcell hb5 (keepcell (W := wc) Z2ra ca1'))), keepset (by omega) (keepset (by omega) (keepcell hb5 (keepcell (W := wc) Z2ra cb1'))), keepset (by omega) (keepset (by omega) (keepcell hb5 (keepcell (W := wc) Z2ra x0))), keepset (by omega) (keepset (by omega) (keepcell hb5 (keepcell (W := wc) Z2ra x1))), keepset (by omega) (keepset (by omega) (keepcell hb5 (keepcell (W := wc) Z2ra x2)))⟩ | with_reducible exact ⟨keepcell hb5 (keepcell (W := wc) Z2ra ca1'), keepcell hb5 (keepcell (W := wc) Z2ra cb1'), keepcell hb5 (keepcell (W := wc) Z2ra x0), keepcell hb5 (keepcell (W := wc) Z2ra x1), keepcell hb5 (keepcell (W := wc) Z2ra x2)⟩ | exact ⟨keepcell (W := wc) Z2ra ca1', keepcell (W := wc) Z2ra cb1', keepcell (W := wc) Z2ra x0, keepcell (W := wc) Z2ra x1, keepcell (W := wc) Z2ra x2⟩)) : p := h
theorem Z2r7 {p : Prop} (h : p := by (refine (RR.out _).mono ?_; rintro e w5 ⟨rfl, hb5⟩; exact ⟨rfl, rfl, by refine Below.trans ?_ (hb5.mono Z2r8); exact Z2ra⟩)) : p := h
end Go.Proofs
namespace Go.Proofs.YtbpjnkeilhfajaaGreat.Num
open Go.RowKit
set_option linter.unusedVariables false
set_option linter.unusedSimpArgs false
set_option maxHeartbeats 8000000 in
theorem sum1_no (p q r s d q1 s1 : Int) (t : Bool) (ba bb bt : Nat) (w : World) (hp : In64 p) (hq : In64 q) (hr : In64 r) (hs : In64 s) (q0 : 0 < q) (s0 : 0 < s)
  (ca : w.cell? ⟨ba, 0, none⟩ = some (.int .i64 p)) (ca1 : w.cell? ⟨ba, 1, none⟩ = some (.int .i64 q)) (cb : w.cell? ⟨bb, 0, none⟩ = some (.int .i64 r)) (cb1 : w.cell? ⟨bb, 1, none⟩ = some (.int .i64 s)) (ct : w.cell? ⟨bt, 0, none⟩ = some (.bool t))
  (la : ba < w.heap.size) (lb : bb < w.heap.size) (lt : bt < w.heap.size) (hd : (Int.gcd q s : Int) = d) (hq1 : q / d = q1) (hs1 : s / d = s1) (T g s2 : Int) (hT : p * s1 + (if t = true then -(r * q1) else r * q1) = T) (hg : (Int.gcd (sz T % d) d : Int) = g) (hs2 : s / g = s2)
  (hfit : ¬ (In64 (quo0 T g) ∧ In64 (q1 * s2))) :
  Calls Tryz.prog 127 #[.pointer (some ⟨ba, 0, none⟩), .pointer (some ⟨bb, 0, none⟩), .pointer (some ⟨bt, 0, none⟩)] w fun e w' => e = .panicked LargeP ∧ Below w.heap.size w w' := by
 have sq := Lib.hid (fun W0 => size_any q W0 hq.1 hq.2)
 have ss := Lib.hid (fun W0 => size_any s W0 hs.1 hs.2)
 have zq : sz q = q := by unfold sz; rw [if_neg (by omega)]
 have zs : sz s = s := by unfold sz; rw [if_neg (by omega)]
 rw [zq] at sq
 rw [zs] at ss
 have qlt := hq.2
 have slt := hs.2
 have gg := Lib.hid (fun W0 => gcd_any q s W0 (by omega) (by omega) (by omega) (by omega))
 have d0 := gcd_pos (p := q) (q := s) (by omega)
 have d1 : (Int.gcd q s : Int) < 9223372036854775808 := by
  have := Int.gcd_le_natAbs_right (a := q) (b := s) (by omega)
  omega
 rw [hd] at gg d0 d1
 have dn : ¬ d = 0 := by omega
 have k1 : q.tdiv d = q1 := by rw [Int.tdiv_eq_ediv_of_nonneg (by omega), hq1]
 have k2 : s.tdiv d = s1 := by rw [Int.tdiv_eq_ediv_of_nonneg (by omega), hs1]
 have i1 : In64 q1 := by
  rw [← hq1]
  have := Int.ediv_nonneg (a := q) (by omega) (Int.le_of_lt d0)
  have := Int.ediv_le_self (a := q) d (by omega)
  exact ⟨by omega, by omega⟩
 have i2 : In64 s1 := by
  rw [← hs1]
  have := Int.ediv_nonneg (a := s) (by omega) (Int.le_of_lt d0)
  have := Int.ediv_le_self (a := s) d (by omega)
  exact ⟨by omega, by omega⟩
 have wd : wrap64 d = d := by unfold wrap64; omega
 have wq1 := wrap64_in i1
 have ws1 := wrap64_in i2
 have wd' : IntKind.i64.wrap d = d := wrapi_in ⟨by omega, by omega⟩
 have wq1' := wrapi_in i1
 have ws1' := wrapi_in i2
 have P1 := Lib.hid (fun W0 => product_any r q1 W0 hr.1 hr.2 i1.1 i1.2)
 have P2 := Lib.hid (fun W0 => product_any p s1 W0 hp.1 hp.2 i2.1 i2.2)
 have m1 := wv_mul_small hp i2
 have m2 := wv_mul_small hr i1
 have v1 := wv_mul hp i2
 have v2 := wv_mul hr i1
 have g0 : 0 < g := by rw [← hg]; exact gcd_pos dn
 have g1 : g ≤ d := by
  rw [← hg]
  have := Int.gcd_le_natAbs_right (a := sz T % d) (b := d) dn
  omega
 have gn : ¬ g = 0 := by omega
 have k3 : s.tdiv g = s2 := by rw [Int.tdiv_eq_ediv_of_nonneg (by omega), hs2]
 have i3 : In64 s2 := by
  rw [← hs2]
  have := Int.ediv_nonneg (a := s) (by omega) (Int.le_of_lt g0)
  have := Int.ediv_le_self (a := s) g (by omega)
  exact ⟨by omega, by omega⟩
 have wg' : IntKind.i64.wrap g = g := wrapi_in ⟨by omega, by omega⟩
 have ws2' := wrapi_in i3
 have P3 := Lib.hid (fun W0 => product_any q1 s2 W0 i1.1 i1.2 i3.1 i3.2)
 have t0 := sz_nonneg T
 have GG := Lib.hid (fun W0 => gcd_any (sz T % d) d W0 (Int.emod_nonneg _ dn) (by have := Int.emod_lt_of_pos (sz T) d0; omega) (by omega) (by omega))
 rw [hg] at GG
 have V3 := Lib.hid (wv_mul i1 i3)
 have HF := Lib.hid hfit
 have HT := Lib.hid hT
 have V1 := Lib.hid v1
 have V2 := Lib.hid v2
 clear hd hq1 hs1 zq zs hT hg hs2 hfit v1 v2
 have la1 : ba < w.heap.size + 1 := by omega
 have la2 : ba < w.heap.size + 1 + 1 := by omega
 have lb1 : bb < w.heap.size + 1 := by omega
 have lb2 : bb < w.heap.size + 1 + 1 := by omega
 go_enter Tryz.func127, Tryz.ntmps127
 go_wp2
 refine wp_region_held_drew (S := (fun w' => w'.cell? ⟨ba, 1, none⟩ = some (.int .i64 q) ∧ w'.cell? ⟨bb, 1, none⟩ = some (.int .i64 s))) Z2r0 ?_ (fun hHeld => ?_)
 ·exact Z2r1
 iterate 4 (first | refine tk0.go ?_ | refine tk1.go ?_ | refine tk3.go ?_ | refine tk4.go ?_)
 refine wpAnyH_ready (rs := [2]) Z2r0 (by simp) (ac2 (fun K hK => ?_) (AllReadyH.nil))
 focus go_simp
 focus (refine (sq.out _).mono ?_; rintro e w1 ⟨rfl, rfl⟩)
 focus try simp only []
 refine hK.out _ _ ?_ (fun hHeld => ?_)
 ·exact Z2r1
 focus (clear hK K; refine Zp2r ?_)
 refine wpAnyH_ready (rs := [5]) Z2r0 (by simp) (ac5 (fun K hK => ?_) (AllReadyH.nil))
 focus go_simp
 focus (refine (ss.out _).mono ?_; rintro e w1 ⟨rfl, rfl⟩)
 focus try simp only []
 refine hK.out _ _ ?_ (fun hHeld => ?_)
 ·exact Z2r1
 focus (clear hK K; refine Zp2r ?_)
 refine wpAnyH_ready (rs := [6]) Z2r0 (by simp) (ac6 (fun K hK => ?_) (AllReadyH.nil))
 focus go_simp
 focus (refine (gg.out _).mono ?_; rintro e w1 ⟨rfl, n, rfl⟩)
 focus try simp only []
 refine hK.out _ _ ?_ (fun hHeld => ?_)
 ·exact Z2r1
 focus (clear hK K; refine Zp2r ?_)
 refine tk7.go ?_
 refine wpAnyH_done Z2r0 ?_ _; rotate_left 1
 go_upto_region 2 with (fail)
 go_cut [5] (fun s5 wx => ∃ k, s5 = .pointer (some ⟨k, 0, none⟩) ∧ InSum w wx ∧ WideAt w wx k (sg r q1) (sz r * sz q1 / 18446744073709551616) (sz r * sz q1 % 18446744073709551616))
 case first =>
  refine wp_region_held_drew (S := (fun w' => w'.cell? ⟨ba, 1, none⟩ = some (.int .i64 q) ∧ w'.cell? ⟨bb, 0, none⟩ = some (.int .i64 r))) Z2r0 ?_ (fun hHeld => ?_)
  ·exact Z2r2
  iterate 7 (first | refine tk0.go ?_ | refine tk1.go ?_ | refine tk2.go ?_ | refine tk3.go ?_ | refine tk4.go ?_ | refine tk5.go ?_ | refine tk6.go ?_)
  refine wpAnyH_ready (rs := [7, 8]) Z2r0 (by simp) (ac7 (fun K hK => ?_) (ac8 (fun K hK => ?_) (AllReadyH.nil)))
  focus go_simp
  focus (refine (P1.out _).mono ?_; rintro e w1 ⟨rfl, rfl⟩)
  focus try simp only []
  refine hK.out _ _ ?_ (fun hHeld => ?_)
  ·exact Z2r2
  focus (clear hK K; refine Zp2r ?_)
  refine wpAnyH_ready (rs := [8]) Z2r0 (by simp) (ac8 (fun K hK => ?_) (AllReadyH.nil))
  focus go_simp
  refine hK.out _ _ ?_ (fun hHeld => ?_)
  ·exact Z2r2
  focus (clear hK K; refine Zp2r ?_)
  refine wpAnyH_ready (rs := [9]) Z2r0 (by simp) (ac9 (fun K hK => ?_) (AllReadyH.nil))
  focus go_simp
  refine hK.out _ _ ?_ (fun hHeld => ?_)
  ·exact Z2r2
  focus (clear hK K; refine Zp2r ?_)
  refine wpAnyH_done Z2r0 ?_ _; rotate_left 1
  focus go_simp
  refine hK.out _ _ ?_ (fun hHeld => ?_)
  ·exact Z2r2
  focus (clear hK K; refine Zp2r ?_)
  refine wpAnyH_ready (rs := [7]) Z2r0 (by simp) (ac7 (fun K hK => ?_) (AllReadyH.nil))
  focus go_simp
  focus (refine (P1.out _).mono ?_; rintro e w1 ⟨rfl, rfl⟩)
  focus try simp only []
  refine hK.out _ _ ?_ (fun hHeld => ?_)
  ·exact Z2r2
  focus (clear hK K; refine Zp2r ?_)
  refine wpAnyH_ready (rs := [9]) Z2r0 (by simp) (ac9 (fun K hK => ?_) (AllReadyH.nil))
  focus go_simp
  refine hK.out _ _ ?_ (fun hHeld => ?_)
  ·exact Z2r2
  focus (clear hK K; refine Zp2r ?_)
  refine wpAnyH_done Z2r0 ?_ _; rotate_left 1
  all_goals
   go_wp2_with fail
   go_meet
  all_goals
   refine ⟨_, rfl, ⟨?_, ?_, ?_, ?_, ?_, ?_⟩, ?_, ?_, ?_, ?_, ?_, ?_, ?_, ?_⟩
   all_goals first | (simp [go_sem]; done) | (simp; omega) | exact Z2r3
 case rest =>
  obtain ⟨k, rfl, ⟨hb, hz, r0, r1, f0, f1⟩, kw, kz, x0, x1, x2, y0, y1, y2⟩ := hcut
  have ca' := keepcell hb ca
  have ca1' := keepcell hb ca1
  have cb' := keepcell hb cb
  have cb1' := keepcell hb cb1
  have ct' := keepcell hb ct
  have la' : ba < wc.heap.size := by omega
  have lb' : bb < wc.heap.size := by omega
  have lt' : bt < wc.heap.size := by omega
  have na : ¬ k = ba := by omega
  have nb : ¬ k = bb := by omega
  have nt : ¬ k = bt := by omega
  have nr : ¬ k = w.heap.size := by omega
  have cA := ca
  have cA1 := ca1
  have cB1 := cb1
  clear ca ca1 cb cb1 ct
  generalize sz r * sz q1 / 18446744073709551616 = xh at *
  generalize sz r * sz q1 % 18446744073709551616 = xl at *
  generalize sz p * sz s1 / 18446744073709551616 = ph at *
  generalize sz p * sz s1 % 18446744073709551616 = pl at *
  generalize sg r q1 = xb at *
  generalize sg p s1 = pb at *
  have PP : ∃ xb2, WV (T - p * s1) xb2 xh xl ∧ xb2 = (if t = true then !xb else xb) := by
   cases t
   ·exact ⟨xb, by have := HT.out; simp at this; rw [← this, show p * s1 + r * q1 - p * s1 = r * q1 from by omega]; exact V2.out, rfl⟩
   ·exact ⟨!xb, by have := HT.out; simp at this; rw [← this, show p * s1 + -(r * q1) - p * s1 = -(r * q1) from by omega]; exact wv_neg V2.out, rfl⟩
  obtain ⟨xb2, hV, hxb⟩ := PP
  have PL := Lib.hid (fun W0 => plus_any _ _ _ _ _ _ _ _ W0 V1.out hV (by omega))
  rw [show p * s1 + (T - p * s1) = T from by omega] at PL
  clear hV m1 m2
  cases t
  ·simp only [Bool.false_eq_true, if_false] at hxb
   subst hxb
   go_upto_region 5 with (fail)
   refine wp_world (fun wx => InSum w wx ∧ WideAt w wx k xb2 xh xl) ⟨⟨hb, hz, r0, r1, f0, f1⟩, kw, kz, x0, x1, x2, y0, y1, y2⟩ ?_
   clear hb hz r0 r1 f0 f1 kw kz x0 x1 x2 y0 y1 y2 ca' ca1' cb' cb1' ct' la' lb' lt'
   rintro wx ⟨⟨hb, hz, r0, r1, f0, f1⟩, kw, kz, x0, x1, x2, y0, y1, y2⟩
   have ca' := keepcell hb cA
   have cb1' := keepcell hb cB1
   have la' : ba < wx.heap.size := by omega
   have lb' : bb < wx.heap.size := by omega
   go_cut [6] (fun s6 wy => ∃ m b3 h3 l3, s6 = .pointer (some ⟨m, 0, none⟩) ∧ InSum w wy ∧ WideAt w wy m b3 h3 l3 ∧ WV T b3 h3 l3)
   case first =>
    clear hp hq hr hs q0 s0 sq ss qlt slt gg d0 d1 k1 i1 i2 wd wq1 ws1 wq1' g0 g1 gn k3 i3 wg' ws2' P3 t0 GG V3 HF HT V1 V2 P1 cA cA1 cB1
    have la3 : ba < wx.heap.size + 1 := by omega
    have lb3 : bb < wx.heap.size + 1 := by omega
    have kz3 : k < wx.heap.size + 1 := by omega
    have la4 : ba < wx.heap.size + 1 + 1 := by omega
    have lb4 : bb < wx.heap.size + 1 + 1 := by omega
    have kz4 : k < wx.heap.size + 1 + 1 := by omega
    refine wp_region_held_drew (S := (fun w' => w'.cell? ⟨ba, 0, none⟩ = some (.int .i64 p) ∧ w'.cell? ⟨bb, 1, none⟩ = some (.int .i64 s) ∧ w'.cell? ⟨k, 0, none⟩ = some (.bool xb2) ∧ w'.cell? ⟨k, 1, none⟩ = some (.int .u64 xh) ∧ w'.cell? ⟨k, 2, none⟩ = some (.int .u64 xl))) Z2r0 ?_ (fun hHeld => ?_)
    ·exact Z2r4
    iterate 8 (first | refine tk0.go ?_ | refine tk1.go ?_ | refine tk2.go ?_ | refine tk3.go ?_ | refine tk4.go ?_ | refine tk5.go ?_ | refine tk6.go ?_ | refine tk8.go ?_)
    refine wpAnyH_ready (rs := [7, 10]) Z2r0 (by simp) (ac7 (fun K hK => ?_) (ac10 (fun K hK => ?_) (AllReadyH.nil)))
    focus go_simp
    focus (refine (P2.out _).mono ?_; rintro e w1 ⟨rfl, rfl⟩)
    focus try simp only []
    refine hK.out _ _ ?_ (fun hHeld => ?_)
    ·exact Z2r4
    focus (clear hK K; refine Zp2r ?_)
    refine wpAnyH_ready (rs := [9, 10]) Z2r0 (by simp) (ac9 (fun K hK => ?_) (ac10 (fun K hK => ?_) (AllReadyH.nil)))
    focus go_simp
    focus (refine (PL.out _).mono ?_; rintro e w4 ⟨⟨b3, h3, l3, rfl, hv⟩, hb4⟩; have hv' := Lib.hid hv; clear hv; obtain ⟨g1, g2, g3⟩ := bgrow hb4)
    focus try simp only []
    refine hK.out _ _ ?_ (fun hHeld => ?_)
    ·exact Z2r4
    focus (clear hK K; refine Zp2r ?_)
    refine wpAnyH_ready (rs := [10]) Z2r0 (by simp) (ac10 (fun K hK => ?_) (AllReadyH.nil))
    focus go_simp
    refine hK.out _ _ ?_ (fun hHeld => ?_)
    ·exact Z2r4
    focus (clear hK K; refine Zp2r ?_)
    refine wpAnyH_ready (rs := [11]) Z2r0 (by simp) (ac11 (fun K hK => ?_) (AllReadyH.nil))
    focus go_simp
    refine hK.out _ _ ?_ (fun hHeld => ?_)
    ·exact Z2r4
    focus (clear hK K; refine Zp2r ?_)
    refine wpAnyH_done Z2r0 ?_ _; rotate_left 1
    focus go_simp
    refine hK.out _ _ ?_ (fun hHeld => ?_)
    ·exact Z2r4
    focus (clear hK K; refine Zp2r ?_)
    refine wpAnyH_ready (rs := [9]) Z2r0 (by simp) (ac9 (fun K hK => ?_) (AllReadyH.nil))
    focus go_simp
    focus (refine (PL.out _).mono ?_; rintro e w4 ⟨⟨b3, h3, l3, rfl, hv⟩, hb4⟩; have hv' := Lib.hid hv; clear hv; obtain ⟨g1, g2, g3⟩ := bgrow hb4)
    focus try simp only []
    refine hK.out _ _ ?_ (fun hHeld => ?_)
    ·exact Z2r4
    focus (clear hK K; refine Zp2r ?_)
    refine wpAnyH_ready (rs := [11]) Z2r0 (by simp) (ac11 (fun K hK => ?_) (AllReadyH.nil))
    focus go_simp
    refine hK.out _ _ ?_ (fun hHeld => ?_)
    ·exact Z2r4
    focus (clear hK K; refine Zp2r ?_)
    refine wpAnyH_done Z2r0 ?_ _; rotate_left 1
    focus go_simp
    refine hK.out _ _ ?_ (fun hHeld => ?_)
    ·exact Z2r4
    focus (clear hK K; refine Zp2r ?_)
    refine wpAnyH_ready (rs := [7]) Z2r0 (by simp) (ac7 (fun K hK => ?_) (AllReadyH.nil))
    focus go_simp
    focus (refine (P2.out _).mono ?_; rintro e w1 ⟨rfl, rfl⟩)
    focus try simp only []
    refine hK.out _ _ ?_ (fun hHeld => ?_)
    ·exact Z2r4
    focus (clear hK K; refine Zp2r ?_)
    refine wpAnyH_ready (rs := [9]) Z2r0 (by simp) (ac9 (fun K hK => ?_) (AllReadyH.nil))
    focus go_simp
    focus (refine (PL.out _).mono ?_; rintro e w4 ⟨⟨b3, h3, l3, rfl, hv⟩, hb4⟩; have hv' := Lib.hid hv; clear hv; obtain ⟨g1, g2, g3⟩ := bgrow hb4)
    focus try simp only []
    refine hK.out _ _ ?_ (fun hHeld => ?_)
    ·exact Z2r4
    focus (clear hK K; refine Zp2r ?_)
    refine wpAnyH_ready (rs := [11]) Z2r0 (by simp) (ac11 (fun K hK => ?_) (AllReadyH.nil))
    focus go_simp
    refine hK.out _ _ ?_ (fun hHeld => ?_)
    ·exact Z2r4
    focus (clear hK K; refine Zp2r ?_)
    refine wpAnyH_done Z2r0 ?_ _; rotate_left 1
    all_goals
     go_wp2_with fail
     go_meet
    all_goals
     have hbw : Below w.heap.size w w4 := by refine Below.trans ?_ (hb4.mono Z2r5); exact Z2r3
     have hz4 : wx.heap.size ≤ w4.heap.size := by have := hb4.size; simp at this; omega
     have hzr : w.heap.size < wx.heap.size + 1 := by omega
     have hzr2 : w.heap.size < wx.heap.size + 1 + 1 := by omega
     have R0 : w4.cell? ⟨w.heap.size, 0, none⟩ = some (.int .i64 0) := keepcell hb4 (by simp [go_sem, r0, hz, hzr, hzr2]; done)
     have R1 : w4.cell? ⟨w.heap.size, 1, none⟩ = some (.int .i64 0) := keepcell hb4 (by simp [go_sem, r1, hz, hzr, hzr2]; done)
     have F0 : w4.frozen? ⟨w.heap.size, 0, none⟩ = false := by rw [g2 _ _ Z2r5]; simp [go_sem, f0, hz, hzr, hzr2]
     have F1 : w4.frozen? ⟨w.heap.size, 1, none⟩ = false := by rw [g2 _ _ Z2r5]; simp [go_sem, f1, hz, hzr, hzr2]
     have Z4 : w.heap.size < w4.heap.size := by omega
     have NW : ¬ w4.heap.size = w.heap.size := by omega
     clear hHeld
     have M0 : (w4.cell? ⟨wx.heap.size, 0, none⟩).isSome = true := by rw [g1 _ _ Z2r5]; simp [go_sem]
     have M1 : (w4.cell? ⟨wx.heap.size, 1, none⟩).isSome = true := by rw [g1 _ _ Z2r5]; simp [go_sem]
     have M2 : (w4.cell? ⟨wx.heap.size, 2, none⟩).isSome = true := by rw [g1 _ _ Z2r5]; simp [go_sem]
     refine ⟨_, b3, h3, l3, rfl, ⟨?_, ?_, ?_, ?_, ?_, ?_⟩, ⟨?_, ?_, ?_, ?_, ?_, ?_, ?_, ?_⟩, hv'.out⟩
    all_goals first | (simp [go_sem, *]; done) | (simp; omega) | exact Z2r3
   case rest =>
    clear hb hz r0 r1 f0 f1 kw kz x0 x1 x2 y0 y1 y2 ca' cb1' la' lb' na nb nt nr
    obtain ⟨m, b3, h3, l3, rfl, ⟨hb, hz, r0, r1, f0, f1⟩, ⟨kw, kz, x0, x1, x2, y0, y1, y2⟩, hV⟩ := hcut
    have HV := Lib.hid hV
    have ca1' := keepcell hb cA1
    have cb1' := keepcell hb cB1
    have la' : ba < wc.heap.size := by omega
    have lb' : bb < wc.heap.size := by omega
    have la3 : ba < wc.heap.size + 1 := by omega
    have lb3 : bb < wc.heap.size + 1 := by omega
    have kz3 : m < wc.heap.size + 1 := by omega
    have la4 : ba < wc.heap.size + 1 + 1 := by omega
    have lb4 : bb < wc.heap.size + 1 + 1 := by omega
    have kz4 : m < wc.heap.size + 1 + 1 := by omega
    have la5 : ba < wc.heap.size + 1 + 1 + 1 := by omega
    have lb5 : bb < wc.heap.size + 1 + 1 + 1 := by omega
    have kz5 : m < wc.heap.size + 1 + 1 + 1 := by omega
    have ldA : ∀ n, ba < (wc.drewN n).heap.size := fun _ => la'
    have ldB : ∀ n, bb < (wc.drewN n).heap.size := fun _ => lb'
    have ldM : ∀ n, m < (wc.drewN n).heap.size := fun _ => kz
    have ldR : ∀ n, w.heap.size < (wc.drewN n).heap.size := fun _ => hz
    have rz3 : w.heap.size < wc.heap.size + 1 := by omega
    have rz4 : w.heap.size < wc.heap.size + 1 + 1 := by omega
    have rz5 : w.heap.size < wc.heap.size + 1 + 1 + 1 := by omega
    have RM := Lib.hid (fun W0 => rem64_any h3 l3 d W0 hV.1 hV.2.2.1 hV.2.2.2.1 d0 (by omega))
    have OV := Lib.hid (fun W0 => over_any b3 h3 l3 g W0 hV.1 hV.2.1 hV.2.2.1 hV.2.2.2.1 g0 (by omega))
    have RR := Lib.hid (fun W0 => rat_no (wv_over HV.out g0 (by omega)) V3.out HF.out W0)
    rw [wv_sz hV] at RM
    clear hV hp hq hr hs q0 s0 sq ss qlt slt gg wd wq1 ws1 k2 ws1' P1 P2 PL HT V1 V2 cA cA1 cB1
    go_wp2_with fail
    refine (RM.out _).mono ?_
    rintro e w1 ⟨rfl, n6, rfl⟩
    go_wp2_with fail
    refine (GG.out _).mono ?_
    rintro e w1 ⟨rfl, n7, rfl⟩
    go_upto_region 8 with (fail)
    refine wp_region_held_drew (S := (fun w' => w'.cell? ⟨ba, 1, none⟩ = some (.int .i64 q) ∧ w'.cell? ⟨bb, 1, none⟩ = some (.int .i64 s) ∧ w'.cell? ⟨m, 0, none⟩ = some (.bool b3) ∧ w'.cell? ⟨m, 1, none⟩ = some (.int .u64 h3) ∧ w'.cell? ⟨m, 2, none⟩ = some (.int .u64 l3))) Z2r0 ?_ (fun hHeld => ?_)
    ·exact Z2r6
    iterate 12 (first | refine tk0.go ?_ | refine tk1.go ?_ | refine tk3.go ?_ | refine tk4.go ?_ | refine tk5.go ?_ | refine tk6.go ?_ | refine tk7.go ?_ | refine tk8.go ?_ | refine tk9.go ?_ | refine tk10.go ?_ | refine tk11.go ?_ | refine tk12.go ?_)
    refine wpAnyH_ready (rs := [2]) Z2r0 (by simp) (ac2 (fun K hK => ?_) (AllReadyH.nil))
    focus go_simp
    focus (refine (OV.out _).mono ?_; rintro e w1 ⟨rfl, n8, rfl⟩)
    focus try simp only []
    refine hK.out _ _ ?_ (fun hHeld => ?_)
    ·exact Z2r6
    focus (clear hK K; refine Zp2r ?_)
    refine wpAnyH_ready (rs := [13]) Z2r0 (by simp) (ac13 (fun K hK => ?_) (AllReadyH.nil))
    focus go_simp
    focus (refine (P3.out _).mono ?_; rintro e w1 ⟨rfl, rfl⟩)
    focus try simp only []
    refine hK.out _ _ ?_ (fun hHeld => ?_)
    ·exact Z2r6
    focus (clear hK K; refine Zp2r ?_)
    refine wpAnyH_ready (rs := [14]) Z2r0 (by simp) (ac14 (fun K hK => ?_) (AllReadyH.nil))
    focus go_simp
    ·exact Z2r7
  ·simp only [if_true] at hxb
   subst hxb
   go_wp2_with fail
   refine (neg_any _ _ _ _).mono ?_
   rintro e w1 ⟨rfl, rfl⟩
   go_upto_region 5 with (fail)
   refine wp_world (fun wx => InSum w wx ∧ WideAt w wx k (!xb) xh xl) ?_ ?_
   ·refine ⟨⟨?_, ?_, ?_, ?_, ?_, ?_⟩, ?_, ?_, ?_, ?_, ?_, ?_, ?_, ?_⟩
    all_goals first | (simp [go_sem, *]; done) | (simp; omega) | exact Z2r3
   clear hb hz r0 r1 f0 f1 kw kz x0 x1 x2 y0 y1 y2 ca' ca1' cb' cb1' ct' la' lb' lt'
   rintro wx ⟨⟨hb, hz, r0, r1, f0, f1⟩, kw, kz, x0, x1, x2, y0, y1, y2⟩
   have ca' := keepcell hb cA
   have cb1' := keepcell hb cB1
   have la' : ba < wx.heap.size := by omega
   have lb' : bb < wx.heap.size := by omega
   go_cut [6] (fun s6 wy => ∃ m b3 h3 l3, s6 = .pointer (some ⟨m, 0, none⟩) ∧ InSum w wy ∧ WideAt w wy m b3 h3 l3 ∧ WV T b3 h3 l3)
   case first =>
    clear hp hq hr hs q0 s0 sq ss qlt slt gg d0 d1 k1 i1 i2 wd wq1 ws1 wq1' g0 g1 gn k3 i3 wg' ws2' P3 t0 GG V3 HF HT V1 V2 P1 cA cA1 cB1
    have la3 : ba < wx.heap.size + 1 := by omega
    have lb3 : bb < wx.heap.size + 1 := by omega
    have kz3 : k < wx.heap.size + 1 := by omega
    have la4 : ba < wx.heap.size + 1 + 1 := by omega
    have lb4 : bb < wx.heap.size + 1 + 1 := by omega
    have kz4 : k < wx.heap.size + 1 + 1 := by omega
    refine wp_region_held_drew (S := (fun w' => w'.cell? ⟨ba, 0, none⟩ = some (.int .i64 p) ∧ w'.cell? ⟨bb, 1, none⟩ = some (.int .i64 s) ∧ w'.cell? ⟨k, 0, none⟩ = some (.bool !xb) ∧ w'.cell? ⟨k, 1, none⟩ = some (.int .u64 xh) ∧ w'.cell? ⟨k, 2, none⟩ = some (.int .u64 xl))) Z2r0 ?_ (fun hHeld => ?_)
    ·exact Z2r4
    iterate 8 (first | refine tk0.go ?_ | refine tk1.go ?_ | refine tk2.go ?_ | refine tk3.go ?_ | refine tk4.go ?_ | refine tk5.go ?_ | refine tk6.go ?_ | refine tk8.go ?_)
    refine wpAnyH_ready (rs := [7, 10]) Z2r0 (by simp) (ac7 (fun K hK => ?_) (ac10 (fun K hK => ?_) (AllReadyH.nil)))
    focus go_simp
    focus (refine (P2.out _).mono ?_; rintro e w1 ⟨rfl, rfl⟩)
    focus try simp only []
    refine hK.out _ _ ?_ (fun hHeld => ?_)
    ·exact Z2r4
    focus (clear hK K; refine Zp2r ?_)
    refine wpAnyH_ready (rs := [9, 10]) Z2r0 (by simp) (ac9 (fun K hK => ?_) (ac10 (fun K hK => ?_) (AllReadyH.nil)))
    focus go_simp
    focus (refine (PL.out _).mono ?_; rintro e w4 ⟨⟨b3, h3, l3, rfl, hv⟩, hb4⟩; have hv' := Lib.hid hv; clear hv; obtain ⟨g1, g2, g3⟩ := bgrow hb4)
    focus try simp only []
    refine hK.out _ _ ?_ (fun hHeld => ?_)
    ·exact Z2r4
    focus (clear hK K; refine Zp2r ?_)
    refine wpAnyH_ready (rs := [10]) Z2r0 (by simp) (ac10 (fun K hK => ?_) (AllReadyH.nil))
    focus go_simp
    refine hK.out _ _ ?_ (fun hHeld => ?_)
    ·exact Z2r4
    focus (clear hK K; refine Zp2r ?_)
    refine wpAnyH_ready (rs := [11]) Z2r0 (by simp) (ac11 (fun K hK => ?_) (AllReadyH.nil))
    focus go_simp
    refine hK.out _ _ ?_ (fun hHeld => ?_)
    ·exact Z2r4
    focus (clear hK K; refine Zp2r ?_)
    refine wpAnyH_done Z2r0 ?_ _; rotate_left 1
    focus go_simp
    refine hK.out _ _ ?_ (fun hHeld => ?_)
    ·exact Z2r4
    focus (clear hK K; refine Zp2r ?_)
    refine wpAnyH_ready (rs := [9]) Z2r0 (by simp) (ac9 (fun K hK => ?_) (AllReadyH.nil))
    focus go_simp
    focus (refine (PL.out _).mono ?_; rintro e w4 ⟨⟨b3, h3, l3, rfl, hv⟩, hb4⟩; have hv' := Lib.hid hv; clear hv; obtain ⟨g1, g2, g3⟩ := bgrow hb4)
    focus try simp only []
    refine hK.out _ _ ?_ (fun hHeld => ?_)
    ·exact Z2r4
    focus (clear hK K; refine Zp2r ?_)
    refine wpAnyH_ready (rs := [11]) Z2r0 (by simp) (ac11 (fun K hK => ?_) (AllReadyH.nil))
    focus go_simp
    refine hK.out _ _ ?_ (fun hHeld => ?_)
    ·exact Z2r4
    focus (clear hK K; refine Zp2r ?_)
    refine wpAnyH_done Z2r0 ?_ _; rotate_left 1
    focus go_simp
    refine hK.out _ _ ?_ (fun hHeld => ?_)
    ·exact Z2r4
    focus (clear hK K; refine Zp2r ?_)
    refine wpAnyH_ready (rs := [7]) Z2r0 (by simp) (ac7 (fun K hK => ?_) (AllReadyH.nil))
    focus go_simp
    focus (refine (P2.out _).mono ?_; rintro e w1 ⟨rfl, rfl⟩)
    focus try simp only []
    refine hK.out _ _ ?_ (fun hHeld => ?_)
    ·exact Z2r4
    focus (clear hK K; refine Zp2r ?_)
    refine wpAnyH_ready (rs := [9]) Z2r0 (by simp) (ac9 (fun K hK => ?_) (AllReadyH.nil))
    focus go_simp
    focus (refine (PL.out _).mono ?_; rintro e w4 ⟨⟨b3, h3, l3, rfl, hv⟩, hb4⟩; have hv' := Lib.hid hv; clear hv; obtain ⟨g1, g2, g3⟩ := bgrow hb4)
    focus try simp only []
    refine hK.out _ _ ?_ (fun hHeld => ?_)
    ·exact Z2r4
    focus (clear hK K; refine Zp2r ?_)
    refine wpAnyH_ready (rs := [11]) Z2r0 (by simp) (ac11 (fun K hK => ?_) (AllReadyH.nil))
    focus go_simp
    refine hK.out _ _ ?_ (fun hHeld => ?_)
    ·exact Z2r4
    focus (clear hK K; refine Zp2r ?_)
    refine wpAnyH_done Z2r0 ?_ _; rotate_left 1
    all_goals
     go_wp2_with fail
     go_meet
    all_goals
     have hbw : Below w.heap.size w w4 := by refine Below.trans ?_ (hb4.mono Z2r5); exact Z2r3
     have hz4 : wx.heap.size ≤ w4.heap.size := by have := hb4.size; simp at this; omega
     have hzr : w.heap.size < wx.heap.size + 1 := by omega
     have hzr2 : w.heap.size < wx.heap.size + 1 + 1 := by omega
     have R0 : w4.cell? ⟨w.heap.size, 0, none⟩ = some (.int .i64 0) := keepcell hb4 (by simp [go_sem, r0, hz, hzr, hzr2]; done)
     have R1 : w4.cell? ⟨w.heap.size, 1, none⟩ = some (.int .i64 0) := keepcell hb4 (by simp [go_sem, r1, hz, hzr, hzr2]; done)
     have F0 : w4.frozen? ⟨w.heap.size, 0, none⟩ = false := by rw [g2 _ _ Z2r5]; simp [go_sem, f0, hz, hzr, hzr2]
     have F1 : w4.frozen? ⟨w.heap.size, 1, none⟩ = false := by rw [g2 _ _ Z2r5]; simp [go_sem, f1, hz, hzr, hzr2]
     have Z4 : w.heap.size < w4.heap.size := by omega
     have NW : ¬ w4.heap.size = w.heap.size := by omega
     clear hHeld
     have M0 : (w4.cell? ⟨wx.heap.size, 0, none⟩).isSome = true := by rw [g1 _ _ Z2r5]; simp [go_sem]
     have M1 : (w4.cell? ⟨wx.heap.size, 1, none⟩).isSome = true := by rw [g1 _ _ Z2r5]; simp [go_sem]
     have M2 : (w4.cell? ⟨wx.heap.size, 2, none⟩).isSome = true := by rw [g1 _ _ Z2r5]; simp [go_sem]
     refine ⟨_, b3, h3, l3, rfl, ⟨?_, ?_, ?_, ?_, ?_, ?_⟩, ⟨?_, ?_, ?_, ?_, ?_, ?_, ?_, ?_⟩, hv'.out⟩
    all_goals first | (simp [go_sem, *]; done) | (simp; omega) | exact Z2r3
   case rest =>
    clear hb hz r0 r1 f0 f1 kw kz x0 x1 x2 y0 y1 y2 ca' cb1' la' lb' na nb nt nr
    obtain ⟨m, b3, h3, l3, rfl, ⟨hb, hz, r0, r1, f0, f1⟩, ⟨kw, kz, x0, x1, x2, y0, y1, y2⟩, hV⟩ := hcut
    have HV := Lib.hid hV
    have ca1' := keepcell hb cA1
    have cb1' := keepcell hb cB1
    have la' : ba < wc.heap.size := by omega
    have lb' : bb < wc.heap.size := by omega
    have la3 : ba < wc.heap.size + 1 := by omega
    have lb3 : bb < wc.heap.size + 1 := by omega
    have kz3 : m < wc.heap.size + 1 := by omega
    have la4 : ba < wc.heap.size + 1 + 1 := by omega
    have lb4 : bb < wc.heap.size + 1 + 1 := by omega
    have kz4 : m < wc.heap.size + 1 + 1 := by omega
    have la5 : ba < wc.heap.size + 1 + 1 + 1 := by omega
    have lb5 : bb < wc.heap.size + 1 + 1 + 1 := by omega
    have kz5 : m < wc.heap.size + 1 + 1 + 1 := by omega
    have ldA : ∀ n, ba < (wc.drewN n).heap.size := fun _ => la'
    have ldB : ∀ n, bb < (wc.drewN n).heap.size := fun _ => lb'
    have ldM : ∀ n, m < (wc.drewN n).heap.size := fun _ => kz
    have ldR : ∀ n, w.heap.size < (wc.drewN n).heap.size := fun _ => hz
    have rz3 : w.heap.size < wc.heap.size + 1 := by omega
    have rz4 : w.heap.size < wc.heap.size + 1 + 1 := by omega
    have rz5 : w.heap.size < wc.heap.size + 1 + 1 + 1 := by omega
    have RM := Lib.hid (fun W0 => rem64_any h3 l3 d W0 hV.1 hV.2.2.1 hV.2.2.2.1 d0 (by omega))
    have OV := Lib.hid (fun W0 => over_any b3 h3 l3 g W0 hV.1 hV.2.1 hV.2.2.1 hV.2.2.2.1 g0 (by omega))
    have RR := Lib.hid (fun W0 => rat_no (wv_over HV.out g0 (by omega)) V3.out HF.out W0)
    rw [wv_sz hV] at RM
    clear hV hp hq hr hs q0 s0 sq ss qlt slt gg wd wq1 ws1 k2 ws1' P1 P2 PL HT V1 V2 cA cA1 cB1
    go_wp2_with fail
    refine (RM.out _).mono ?_
    rintro e w1 ⟨rfl, n6, rfl⟩
    go_wp2_with fail
    refine (GG.out _).mono ?_
    rintro e w1 ⟨rfl, n7, rfl⟩
    go_upto_region 8 with (fail)
    refine wp_region_held_drew (S := (fun w' => w'.cell? ⟨ba, 1, none⟩ = some (.int .i64 q) ∧ w'.cell? ⟨bb, 1, none⟩ = some (.int .i64 s) ∧ w'.cell? ⟨m, 0, none⟩ = some (.bool b3) ∧ w'.cell? ⟨m, 1, none⟩ = some (.int .u64 h3) ∧ w'.cell? ⟨m, 2, none⟩ = some (.int .u64 l3))) Z2r0 ?_ (fun hHeld => ?_)
    ·exact Z2r6
    iterate 12 (first | refine tk0.go ?_ | refine tk1.go ?_ | refine tk3.go ?_ | refine tk4.go ?_ | refine tk5.go ?_ | refine tk6.go ?_ | refine tk7.go ?_ | refine tk8.go ?_ | refine tk9.go ?_ | refine tk10.go ?_ | refine tk11.go ?_ | refine tk12.go ?_)
    refine wpAnyH_ready (rs := [2]) Z2r0 (by simp) (ac2 (fun K hK => ?_) (AllReadyH.nil))
    focus go_simp
    focus (refine (OV.out _).mono ?_; rintro e w1 ⟨rfl, n8, rfl⟩)
    focus try simp only []
    refine hK.out _ _ ?_ (fun hHeld => ?_)
    ·exact Z2r6
    focus (clear hK K; refine Zp2r ?_)
    refine wpAnyH_ready (rs := [13]) Z2r0 (by simp) (ac13 (fun K hK => ?_) (AllReadyH.nil))
    focus go_simp
    focus (refine (P3.out _).mono ?_; rintro e w1 ⟨rfl, rfl⟩)
    focus try simp only []
    refine hK.out _ _ ?_ (fun hHeld => ?_)
    ·exact Z2r6
    focus (clear hK K; refine Zp2r ?_)
    refine wpAnyH_ready (rs := [14]) Z2r0 (by simp) (ac14 (fun K hK => ?_) (AllReadyH.nil))
    focus go_simp
    ·exact Z2r7
end Go.Proofs.YtbpjnkeilhfajaaGreat.Num
end

section
/- Contracts of num: sum at large numbers. -/
namespace Go.Proofs
theorem Z2w0 {p : Prop} (h : p := by simp [go_sem]) : p := h
theorem Z2w1 {p : Prop} (h : p := by first | exact Nat.le_refl _ | (simp; done) | (simp; omega) | omega) : p := h
theorem Z2w2 {p : Prop} (h : p := by repeat (first | exact Below.refl _ _ | with_reducible assumption | refine Below.alloc ?_ (by first | exact Nat.le_refl _ | (simp; done) | (simp; omega) | omega) _ | refine Below.setCell ?_ (by first | exact Nat.le_refl _ | (simp; done) | (simp; omega) | omega) _ | refine Below.drew ?_ | refine bdrewN ?_ _)) : p := h
end Go.Proofs
namespace Go.Proofs.YtbpjnkeilhfajaaGreat.Num
open Go.RowKit
set_option linter.unusedVariables false
set_option linter.unusedSimpArgs false
theorem cf_sum1 (args : Array Value) (w : World) : (callFunc 127 args).run Tryz.prog w = .ok (.enter 127 args) w := by kernel_rfl
def both (x y : Int) : Int × Int × Bool := if In64 x ∧ In64 y then (x, y, true) else (0, 0, false)
def sumT (p q r s : Int) (t : Bool) : Int := p * (s / (Int.gcd q s : Int)) + (if t = true then -(r * (q / (Int.gcd q s : Int))) else r * (q / (Int.gcd q s : Int)))
def sumG (p q r s : Int) (t : Bool) : Int := (Int.gcd (sz (sumT p q r s t) % (Int.gcd q s : Int)) (Int.gcd q s) : Int)
def sumL (p q r s : Int) (t : Bool) : Int × Int × Bool := both (quo0 (sumT p q r s t) (sumG p q r s t)) (q / (Int.gcd q s : Int) * (s / sumG p q r s t))
theorem sum1_fits (p q r s : Int) (t : Bool) (w : World) (ba bb bt : Nat) (hp : In64 p) (hq : In64 q) (hr : In64 r) (hs : In64 s) (q0 : 0 < q) (s0 : 0 < s)
  (ca : w.cell? ⟨ba, 0, none⟩ = some (.int .i64 p)) (ca1 : w.cell? ⟨ba, 1, none⟩ = some (.int .i64 q)) (cb : w.cell? ⟨bb, 0, none⟩ = some (.int .i64 r)) (cb1 : w.cell? ⟨bb, 1, none⟩ = some (.int .i64 s)) (ct : w.cell? ⟨bt, 0, none⟩ = some (.bool t)) :
  Calls Tryz.prog 60 #[.func (.func 127) #[] #[.pointer (some ⟨ba, 0, none⟩), .pointer (some ⟨bb, 0, none⟩), .pointer (some ⟨bt, 0, none⟩)]] w fun e w' => e = .returned (RB (sumL p q r s t)) ∧ Below w.heap.size w w' := by
 unfold sumL both
 by_cases hf : In64 (quo0 (sumT p q r s t) (sumG p q r s t)) ∧ In64 (q / (Int.gcd q s : Int) * (s / sumG p q r s t))
 ·rw [if_pos hf]
  exact fitsR_ok _ _ _ _ w (cf_sum1 _) (fun W hW => sum1_ok p q r s _ _ _ t ba bb bt W hp hq hr hs q0 s0 (keepcell hW ca) (keepcell hW ca1) (keepcell hW cb) (keepcell hW cb1) (keepcell hW ct) (cell_lt (keepcell hW ca)) (cell_lt (keepcell hW cb)) (cell_lt (keepcell hW ct)) rfl rfl rfl _ _ _ rfl rfl rfl hf)
 ·rw [if_neg hf]
  exact fitsR_no _ _ w (cf_sum1 _) (fun W hW => sum1_no p q r s _ _ _ t ba bb bt W hp hq hr hs q0 s0 (keepcell hW ca) (keepcell hW ca1) (keepcell hW cb) (keepcell hW cb1) (keepcell hW ct) (cell_lt (keepcell hW ca)) (cell_lt (keepcell hW cb)) (cell_lt (keepcell hW ct)) rfl rfl rfl _ _ _ rfl rfl rfl hf)
theorem smallB_cases (p q r s : Int) (h : ¬ (smallB p q = true ∧ smallB r s = true)) : smallB p q = false ∨ (smallB p q = true ∧ smallB r s = false) := by
 cases h1 : smallB p q with
 | false => exact .inl rfl
 | true => exact .inr ⟨rfl, by cases h2 : smallB r s with | false => rfl | true => exact absurd ⟨h1, h2⟩ h⟩
theorem sum_large (p q r s : Int) (t : Bool) (w : World) (hp : In64 p) (hq : In64 q) (hr : In64 r) (hs : In64 s) (q0 : 0 < q) (s0 : 0 < s) (hk : ¬ (smallB p q = true ∧ smallB r s = true)) :
  Calls Tryz.prog 115 #[RV p q, RV r s, .bool t] w fun e w' => e = .returned (RB (sumL p q r s t)) ∧ Below w.heap.size w w' := by
 have hmf := run_makeFunc
 have ff := Lib.hid (fun (W0 : World) (ba bb bt : Nat) => sum1_fits p q r s t W0 ba bb bt hp hq hr hs q0 s0)
 have e1 : decide (0 < q) = true := decide_eq_true q0
 have e2 : decide (0 < s) = true := decide_eq_true s0
 clear hp hq hr hs q0 s0
 generalize sumL p q r s t = z at *
 obtain ⟨x, y, b⟩ := z
 rcases smallB_cases p q r s hk with k1 | ⟨k1, k2⟩
 all_goals clear hk
 ·go_enter Tryz.func115, Tryz.ntmps115
  go_wp2_with fail
  refine (right_any _ _ _).mono ?_
  rintro e w1 ⟨rfl, rfl⟩
  rw [e1]
  go_wp2_with fail
  refine (right_any _ _ _).mono ?_
  rintro e w1 ⟨rfl, rfl⟩
  rw [e2]
  go_wp2_with fail
  refine (small_any _ _ _).mono ?_
  rintro e w1 ⟨rfl, rfl⟩
  rw [k1]
  go_wp2_with fail
  refine (small_any _ _ _).mono ?_
  rintro e w1 ⟨rfl, rfl⟩
  rw [k1]
  go_wp2_with fail
  refine (ff.out _ _ _ _ Z2w0 Z2w0 Z2w0 Z2w0 Z2w0).mono ?_
  rintro e w1 ⟨rfl, hb1⟩
  obtain ⟨g1, g2, g3⟩ := bgrow hb1
  have hbw : Below w.heap.size w w1 := by refine Below.trans ?_ (hb1.mono Z2w1); exact Z2w2
  have z0 : w1.cell? ⟨w.heap.size + 1 + 1 + 1, 0, none⟩ = some (.int .i64 0) := by rw [g1 _ _ Z2w1]; simp [go_sem]
  have z1 : w1.cell? ⟨w.heap.size + 1 + 1 + 1, 1, none⟩ = some (.int .i64 0) := by rw [g1 _ _ Z2w1]; simp [go_sem]
  go_wp2
  exact bodyPost_ret (v := RB (x, y, b)) (by simp [results, Tryz.results115, go_sem, z0, z1]) rfl ⟨rfl, Z2w2⟩
 ·go_enter Tryz.func115, Tryz.ntmps115
  go_wp2_with fail
  refine (right_any _ _ _).mono ?_
  rintro e w1 ⟨rfl, rfl⟩
  rw [e1]
  go_wp2_with fail
  refine (right_any _ _ _).mono ?_
  rintro e w1 ⟨rfl, rfl⟩
  rw [e2]
  go_wp2_with fail
  refine (small_any _ _ _).mono ?_
  rintro e w1 ⟨rfl, rfl⟩
  rw [k1]
  go_wp2_with fail
  refine (small_any _ _ _).mono ?_
  rintro e w1 ⟨rfl, rfl⟩
  rw [k2]
  go_wp2_with fail
  refine (small_any _ _ _).mono ?_
  rintro e w1 ⟨rfl, rfl⟩
  rw [k1]
  go_wp2_with fail
  refine (small_any _ _ _).mono ?_
  rintro e w1 ⟨rfl, rfl⟩
  rw [k2]
  go_wp2_with fail
  refine (ff.out _ _ _ _ Z2w0 Z2w0 Z2w0 Z2w0 Z2w0).mono ?_
  rintro e w1 ⟨rfl, hb1⟩
  obtain ⟨g1, g2, g3⟩ := bgrow hb1
  have hbw : Below w.heap.size w w1 := by refine Below.trans ?_ (hb1.mono Z2w1); exact Z2w2
  have z0 : w1.cell? ⟨w.heap.size + 1 + 1 + 1, 0, none⟩ = some (.int .i64 0) := by rw [g1 _ _ Z2w1]; simp [go_sem]
  have z1 : w1.cell? ⟨w.heap.size + 1 + 1 + 1, 1, none⟩ = some (.int .i64 0) := by rw [g1 _ _ Z2w1]; simp [go_sem]
  go_wp2
  exact bodyPost_ret (v := RB (x, y, b)) (by simp [results, Tryz.results115, go_sem, z0, z1]) rfl ⟨rfl, Z2w2⟩
end Go.Proofs.YtbpjnkeilhfajaaGreat.Num
end

section
/- The contracts of num's functions, in the form in which a printed text meets a callee: Plus and Minus. -/
namespace Go.Proofs.YtbpjnkeilhfajaaGreat.Given
open Go.RowKit Go.Proofs.YtbpjnkeilhfajaaGreat.Num
def sumR (p q r s : Int) (t : Bool) : Int × Int × Bool :=
 if 0 < q ∧ 0 < s then if smallB p q = true ∧ smallB r s = true then mk (top p q r s t) (q * s) else sumL p q r s t else (0, 0, false)
theorem sum_any (p q r s : Int) (t : Bool) (w : World) (hp : In64 p) (hq : In64 q) (hr : In64 r) (hs : In64 s) :
  Calls Tryz.prog 115 #[RV p q, RV r s, .bool t] w fun e w' => e = .returned (RB (sumR p q r s t)) ∧ Below w.heap.size w w' := by
 unfold sumR
 by_cases h0 : 0 < q ∧ 0 < s
 ·rw [if_pos h0]
  by_cases hk : smallB p q = true ∧ smallB r s = true
  ·rw [if_pos hk]; exact sum_small p q r s t w h0.1 h0.2 hk.1 hk.2
  ·rw [if_neg hk]; exact sum_large p q r s t w hp hq hr hs h0.1 h0.2 hk
 ·rw [if_neg h0]; exact sum_wrong p q r s t w h0
def num_Rat_Plus.f (a0_0 a0_1 a1_0 a1_1 : Int) : Option (Int × Int × Bool) := if In64 a0_0 ∧ In64 a0_1 ∧ In64 a1_0 ∧ In64 a1_1 then some (sumR a0_0 a0_1 a1_0 a1_1 false) else none
theorem num_Rat_Plus.calls (a0_0 a0_1 a1_0 a1_1 : Int) (r1 r2 : Int) (r3 : Bool) (w : World) (h : num_Rat_Plus.f a0_0 a0_1 a1_0 a1_1 = some (r1, r2, r3)) :
  Calls Tryz.prog 86 #[.agg #[.int .i64 a0_0, .int .i64 a0_1], .agg #[.int .i64 a1_0, .int .i64 a1_1]] w fun e w' => e = .returned (.tuple #[.agg #[.int .i64 r1, .int .i64 r2], .bool r3]) ∧ Below w.heap.size w w' := by
 unfold num_Rat_Plus.f at h
 split at h
 ·rename_i hd
  have := Plus_of a0_0 a0_1 a1_0 a1_1 _ w (fun W => sum_any a0_0 a0_1 a1_0 a1_1 false W hd.1 hd.2.1 hd.2.2.1 hd.2.2.2)
  rw [Option.some.inj h] at this
  exact this
 ·cases h
def num_Rat_Minus.f (a0_0 a0_1 a1_0 a1_1 : Int) : Option (Int × Int × Bool) := if In64 a0_0 ∧ In64 a0_1 ∧ In64 a1_0 ∧ In64 a1_1 then some (sumR a0_0 a0_1 a1_0 a1_1 true) else none
theorem num_Rat_Minus.calls (a0_0 a0_1 a1_0 a1_1 : Int) (r1 r2 : Int) (r3 : Bool) (w : World) (h : num_Rat_Minus.f a0_0 a0_1 a1_0 a1_1 = some (r1, r2, r3)) :
  Calls Tryz.prog 98 #[.agg #[.int .i64 a0_0, .int .i64 a0_1], .agg #[.int .i64 a1_0, .int .i64 a1_1]] w fun e w' => e = .returned (.tuple #[.agg #[.int .i64 r1, .int .i64 r2], .bool r3]) ∧ Below w.heap.size w w' := by
 unfold num_Rat_Minus.f at h
 split at h
 ·rename_i hd
  have := Minus_of a0_0 a0_1 a1_0 a1_1 _ w (fun W => sum_any a0_0 a0_1 a1_0 a1_1 true W hd.1 hd.2.1 hd.2.2.1 hd.2.2.2)
  rw [Option.some.inj h] at this
  exact this
 ·cases h
end Go.Proofs.YtbpjnkeilhfajaaGreat.Given
end
