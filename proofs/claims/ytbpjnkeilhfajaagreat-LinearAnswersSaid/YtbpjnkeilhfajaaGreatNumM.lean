/- The closure of num's sum. -/
import Derived.Test.YtbpjnkeilhfajaaGreatTk
import Derived.Test.YtbpjnkeilhfajaaGreatNumL
import Derived.Deep.DeepCutAuto
namespace Go.Proofs
theorem Zp2q {p q : Prop} (hq : q) (h : p = q := by first | (simp only [Act.put, List.setIfInBounds_toArray, List.set_cons_zero, List.set_cons_succ]; done) | (simp only [Act.put, List.setIfInBounds_toArray, List.set_cons_zero, List.set_cons_succ]; rfl) | rfl) : p := Eq.mpr h hq
theorem Z2q0 {p : Prop} (h : p := by kernel_rfl) : p := h
theorem Z2q1 {p : Prop} (h : p := by (simp [go_sem, ca1, cb1, la, lb]; done)) : p := h
theorem Z2q2 {p : Prop} (h : p := by (simp [go_sem, ca1, cb, la, lb, la1, lb1, la2, lb2]; done)) : p := h
theorem Z2q7 {p : Prop} (h : p := by first | exact Nat.le_refl _ | (simp; done) | (simp; omega) | omega) : p := h
theorem Z2q3 {p : Prop} (h : p := by repeat (first | exact Below.refl _ _ | with_reducible assumption | refine Below.alloc ?_ Z2q7 _ | refine Below.setCell ?_ Z2q7 _ | refine Below.drew ?_ | refine bdrewN ?_ _)) : p := h
theorem Z2q8 {p : Prop} (h : p := by simp [go_sem, ca', cb1', x0, x1, x2, la', lb', kz, la3, lb3, kz3, la4, lb4, kz4]; done) : p := h
theorem Z2q4 {p : Prop} (h : p := by (first | (with_reducible refine ⟨?_, ?_, ?_, ?_, ?_⟩ <;> with_reducible exact keepcell (by with_reducible assumption) Z2q8) | (with_reducible refine ⟨?_, ?_, ?_, ?_, ?_⟩ <;> with_reducible exact keepalloc (keepcell (by with_reducible assumption) Z2q8)) | (with_reducible refine ⟨?_, ?_, ?_, ?_, ?_⟩ <;> with_reducible exact keepset (by omega) (keepset (by omega) (keepset (by omega) (keepcell (by with_reducible assumption) Z2q8)))) | (simp [go_sem, ca', cb1', x0, x1, x2, la', lb', kz, la3, lb3, kz3, la4, lb4, kz4]; done))) : p := h
theorem Z2q5 {p : Prop} (h : p := by first | exact Nat.le_refl _ | (simp; done) | (simp; omega) | omega) : p := h
theorem Z2q9 {p : Prop} (h : p := by repeat (first | exact Below.refl _ _ | with_reducible assumption | refine Below.alloc ?_ (by first | exact Nat.le_refl _ | (simp; done) | (simp; omega) | omega) _ | refine Below.setCell ?_ (by first | exact Nat.le_refl _ | (simp; done) | (simp; omega) | omega) _ | refine Below.drew ?_ | refine bdrewN ?_ _)) : p := h
theorem Z2q6 {p : Prop} (h : p := by (first | with_reducible exact ⟨keepset (by omega) (keepset (by omega) (keepcell hb5 (keepcell (W := wc) Z2q9 ca1'))), keepset (by omega) (keepset (by omega) (keepcell hb5 (keepcell (W := wc) Z2q9 cb1'))), keepset (by omega) (keepset (by omega) (keepcell hb5 (keepcell (W := wc) Z2q9 x0))), keepset (by omega) (keepset (by omega) (keepcell hb5 (keepcell (W := wc) Z2q9 x1))), keepset (by omega) (keepset (by omega) (keepcell hb5 (keepcell (W := wc) Z2q9 x2)))⟩ | with_reducible exact ⟨keepcell hb5 (keepcell (W := wc) Z2q9 ca1'), keepcell hb5 (keepcell (W := wc) Z2q9 cb1'), keepcell hb5 (keepcell (W := wc) Z2q9 x0), keepcell hb5 (keepcell (W := wc) Z2q9 x1), keepcell hb5 (keepcell (W := wc) Z2q9 x2)⟩ | exact ⟨keepcell (W := wc) Z2q9 ca1', keepcell (W := wc) Z2q9 cb1', keepcell (W := wc) Z2q9 x0, keepcell (W := wc) Z2q9 x1, keepcell (W := wc) Z2q9 x2⟩)) : p := h
end Go.Proofs
namespace Go.Proofs.YtbpjnkeilhfajaaGreat.Num
open Go.RowKit
set_option linter.unusedVariables false
set_option linter.unusedSimpArgs false
theorem wrapi_in {a : Int} (h : In64 a) : IntKind.i64.wrap a = a := by
 obtain ⟨h1, h2⟩ := h
 rw [IntKind.wrap_i64]; omega
theorem wrap64_in {a : Int} (h : In64 a) : wrap64 a = a := by
 obtain ⟨h1, h2⟩ := h
 unfold wrap64; omega
theorem wp_world {P : Program} {c : Code} {Q : Exit → Act → World → Prop} {a : Act} (R : World → Prop) {w0 : World} (h : R w0) (H : ∀ wx, R wx → Code.wp P c Q a wx) : Code.wp P c Q a w0 := H _ h
theorem wv_sz {x : Int} {b h l} (hw : WV x b h l) : h * 18446744073709551616 + l = sz x := by
 obtain ⟨h0, h1, l0, l1, hx⟩ := hw
 unfold sz
 cases b <;> simp at hx <;> split <;> omega
def InSum (w wx : World) : Prop := Below w.heap.size w wx ∧ w.heap.size < wx.heap.size ∧ wx.cell? ⟨w.heap.size, 0, none⟩ = some (.int .i64 0) ∧ wx.cell? ⟨w.heap.size, 1, none⟩ = some (.int .i64 0) ∧ wx.frozen? ⟨w.heap.size, 0, none⟩ = false ∧ wx.frozen? ⟨w.heap.size, 1, none⟩ = false
def WideAt (w wx : World) (k : Nat) (b : Bool) (h l : Int) : Prop := w.heap.size < k ∧ k < wx.heap.size ∧ wx.cell? ⟨k, 0, none⟩ = some (.bool b) ∧ wx.cell? ⟨k, 1, none⟩ = some (.int .u64 h) ∧ wx.cell? ⟨k, 2, none⟩ = some (.int .u64 l) ∧ wx.frozen? ⟨k, 0, none⟩ = false ∧ wx.frozen? ⟨k, 1, none⟩ = false ∧ wx.frozen? ⟨k, 2, none⟩ = false
set_option maxHeartbeats 8000000 in
theorem sum1_ok (p q r s d q1 s1 : Int) (t : Bool) (ba bb bt : Nat) (w : World) (hp : In64 p) (hq : In64 q) (hr : In64 r) (hs : In64 s) (q0 : 0 < q) (s0 : 0 < s)
  (ca : w.cell? ⟨ba, 0, none⟩ = some (.int .i64 p)) (ca1 : w.cell? ⟨ba, 1, none⟩ = some (.int .i64 q)) (cb : w.cell? ⟨bb, 0, none⟩ = some (.int .i64 r)) (cb1 : w.cell? ⟨bb, 1, none⟩ = some (.int .i64 s)) (ct : w.cell? ⟨bt, 0, none⟩ = some (.bool t))
  (la : ba < w.heap.size) (lb : bb < w.heap.size) (lt : bt < w.heap.size) (hd : (Int.gcd q s : Int) = d) (hq1 : q / d = q1) (hs1 : s / d = s1) (T g s2 : Int) (hT : p * s1 + (if t = true then -(r * q1) else r * q1) = T) (hg : (Int.gcd (sz T % d) d : Int) = g) (hs2 : s / g = s2)
  (hfit : In64 (quo0 T g) ∧ In64 (q1 * s2)) :
  Calls Tryz.prog 127 #[.pointer (some ⟨ba, 0, none⟩), .pointer (some ⟨bb, 0, none⟩), .pointer (some ⟨bt, 0, none⟩)] w fun e w' => e = .returned (RV (quo0 T g) (q1 * s2)) ∧ Below w.heap.size w w' := by
 have sq := Lib.hid (fun W0 => size_any q W0 hq.1 hq.2)
 have ss := Lib.hid (fun W0 => size_any s W0 hs.1 hs.2)
 have zq : sz q = q := by unfold sz; rw [if_neg (by omega)]
 have zs : sz s = s := by unfold sz; rw [if_neg (by omega)]
 rw [zq] at sq
 rw [zs] at ss
 have qlt := hq.2
 have slt := hs.2
 have gg := Lib.hid (fun W0 => gcd_any q s W0 (by omega) (by omega) (by omega) (by omega))
 have d0 := gcd_pos (p := q) (q := s) (by omega)
 have d1 : (Int.gcd q s : Int) < 9223372036854775808 := by
  have := Int.gcd_le_natAbs_right (a := q) (b := s) (by omega)
  omega
 rw [hd] at gg d0 d1
 have dn : ¬ d = 0 := by omega
 have k1 : q.tdiv d = q1 := by rw [Int.tdiv_eq_ediv_of_nonneg (by omega), hq1]
 have k2 : s.tdiv d = s1 := by rw [Int.tdiv_eq_ediv_of_nonneg (by omega), hs1]
 have i1 : In64 q1 := by
  rw [← hq1]
  have := Int.ediv_nonneg (a := q) (by omega) (Int.le_of_lt d0)
  have := Int.ediv_le_self (a := q) d (by omega)
  exact ⟨by omega, by omega⟩
 have i2 : In64 s1 := by
  rw [← hs1]
  have := Int.ediv_nonneg (a := s) (by omega) (Int.le_of_lt d0)
  have := Int.ediv_le_self (a := s) d (by omega)
  exact ⟨by omega, by omega⟩
 have wd : wrap64 d = d := by unfold wrap64; omega
 have wq1 := wrap64_in i1
 have ws1 := wrap64_in i2
 have wd' : IntKind.i64.wrap d = d := wrapi_in ⟨by omega, by omega⟩
 have wq1' := wrapi_in i1
 have ws1' := wrapi_in i2
 have P1 := Lib.hid (fun W0 => product_any r q1 W0 hr.1 hr.2 i1.1 i1.2)
 have P2 := Lib.hid (fun W0 => product_any p s1 W0 hp.1 hp.2 i2.1 i2.2)
 have m1 := wv_mul_small hp i2
 have m2 := wv_mul_small hr i1
 have v1 := wv_mul hp i2
 have v2 := wv_mul hr i1
 have g0 : 0 < g := by rw [← hg]; exact gcd_pos dn
 have g1 : g ≤ d := by
  rw [← hg]
  have := Int.gcd_le_natAbs_right (a := sz T % d) (b := d) dn
  omega
 have gn : ¬ g = 0 := by omega
 have k3 : s.tdiv g = s2 := by rw [Int.tdiv_eq_ediv_of_nonneg (by omega), hs2]
 have i3 : In64 s2 := by
  rw [← hs2]
  have := Int.ediv_nonneg (a := s) (by omega) (Int.le_of_lt g0)
  have := Int.ediv_le_self (a := s) g (by omega)
  exact ⟨by omega, by omega⟩
 have wg' : IntKind.i64.wrap g = g := wrapi_in ⟨by omega, by omega⟩
 have ws2' := wrapi_in i3
 have P3 := Lib.hid (fun W0 => product_any q1 s2 W0 i1.1 i1.2 i3.1 i3.2)
 have t0 := sz_nonneg T
 have GG := Lib.hid (fun W0 => gcd_any (sz T % d) d W0 (Int.emod_nonneg _ dn) (by have := Int.emod_lt_of_pos (sz T) d0; omega) (by omega) (by omega))
 rw [hg] at GG
 have V3 := Lib.hid (wv_mul i1 i3)
 have HF := Lib.hid hfit
 have HT := Lib.hid hT
 have V1 := Lib.hid v1
 have V2 := Lib.hid v2
 clear hd hq1 hs1 zq zs hT hg hs2 hfit v1 v2
 have la1 : ba < w.heap.size + 1 := by omega
 have la2 : ba < w.heap.size + 1 + 1 := by omega
 have lb1 : bb < w.heap.size + 1 := by omega
 have lb2 : bb < w.heap.size + 1 + 1 := by omega
 go_enter Tryz.func127, Tryz.ntmps127
 go_wp2
 refine wp_region_held_drew (S := (fun w' => w'.cell? ⟨ba, 1, none⟩ = some (.int .i64 q) ∧ w'.cell? ⟨bb, 1, none⟩ = some (.int .i64 s))) Z2q0 ?_ (fun hHeld => ?_)
 ·exact Z2q1
 iterate 4 (first | refine tk0.go ?_ | refine tk1.go ?_ | refine tk3.go ?_ | refine tk4.go ?_)
 refine wpAnyH_ready (rs := [2]) Z2q0 (by simp) (ac2 (fun K hK => ?_) (AllReadyH.nil))
 focus go_simp
 focus (refine (sq.out _).mono ?_; rintro e w1 ⟨rfl, rfl⟩)
 focus try simp only []
 refine hK.out _ _ ?_ (fun hHeld => ?_)
 ·exact Z2q1
 focus (clear hK K; refine Zp2q ?_)
 refine wpAnyH_ready (rs := [5]) Z2q0 (by simp) (ac5 (fun K hK => ?_) (AllReadyH.nil))
 focus go_simp
 focus (refine (ss.out _).mono ?_; rintro e w1 ⟨rfl, rfl⟩)
 focus try simp only []
 refine hK.out _ _ ?_ (fun hHeld => ?_)
 ·exact Z2q1
 focus (clear hK K; refine Zp2q ?_)
 refine wpAnyH_ready (rs := [6]) Z2q0 (by simp) (ac6 (fun K hK => ?_) (AllReadyH.nil))
 focus go_simp
 focus (refine (gg.out _).mono ?_; rintro e w1 ⟨rfl, n, rfl⟩)
 focus try simp only []
 refine hK.out _ _ ?_ (fun hHeld => ?_)
 ·exact Z2q1
 focus (clear hK K; refine Zp2q ?_)
 refine tk7.go ?_
 refine wpAnyH_done Z2q0 ?_ _; rotate_left 1
 go_upto_region 2 with (fail)
 go_cut [5] (fun s5 wx => ∃ k, s5 = .pointer (some ⟨k, 0, none⟩) ∧ InSum w wx ∧ WideAt w wx k (sg r q1) (sz r * sz q1 / 18446744073709551616) (sz r * sz q1 % 18446744073709551616))
 case first =>
  refine wp_region_held_drew (S := (fun w' => w'.cell? ⟨ba, 1, none⟩ = some (.int .i64 q) ∧ w'.cell? ⟨bb, 0, none⟩ = some (.int .i64 r))) Z2q0 ?_ (fun hHeld => ?_)
  ·exact Z2q2
  iterate 7 (first | refine tk0.go ?_ | refine tk1.go ?_ | refine tk2.go ?_ | refine tk3.go ?_ | refine tk4.go ?_ | refine tk5.go ?_ | refine tk6.go ?_)
  refine wpAnyH_ready (rs := [7, 8]) Z2q0 (by simp) (ac7 (fun K hK => ?_) (ac8 (fun K hK => ?_) (AllReadyH.nil)))
  focus go_simp
  focus (refine (P1.out _).mono ?_; rintro e w1 ⟨rfl, rfl⟩)
  focus try simp only []
  refine hK.out _ _ ?_ (fun hHeld => ?_)
  ·exact Z2q2
  focus (clear hK K; refine Zp2q ?_)
  refine wpAnyH_ready (rs := [8]) Z2q0 (by simp) (ac8 (fun K hK => ?_) (AllReadyH.nil))
  focus go_simp
  refine hK.out _ _ ?_ (fun hHeld => ?_)
  ·exact Z2q2
  focus (clear hK K; refine Zp2q ?_)
  refine wpAnyH_ready (rs := [9]) Z2q0 (by simp) (ac9 (fun K hK => ?_) (AllReadyH.nil))
  focus go_simp
  refine hK.out _ _ ?_ (fun hHeld => ?_)
  ·exact Z2q2
  focus (clear hK K; refine Zp2q ?_)
  refine wpAnyH_done Z2q0 ?_ _; rotate_left 1
  focus go_simp
  refine hK.out _ _ ?_ (fun hHeld => ?_)
  ·exact Z2q2
  focus (clear hK K; refine Zp2q ?_)
  refine wpAnyH_ready (rs := [7]) Z2q0 (by simp) (ac7 (fun K hK => ?_) (AllReadyH.nil))
  focus go_simp
  focus (refine (P1.out _).mono ?_; rintro e w1 ⟨rfl, rfl⟩)
  focus try simp only []
  refine hK.out _ _ ?_ (fun hHeld => ?_)
  ·exact Z2q2
  focus (clear hK K; refine Zp2q ?_)
  refine wpAnyH_ready (rs := [9]) Z2q0 (by simp) (ac9 (fun K hK => ?_) (AllReadyH.nil))
  focus go_simp
  refine hK.out _ _ ?_ (fun hHeld => ?_)
  ·exact Z2q2
  focus (clear hK K; refine Zp2q ?_)
  refine wpAnyH_done Z2q0 ?_ _; rotate_left 1
  all_goals
   go_wp2_with fail
   go_meet
  all_goals
   refine ⟨_, rfl, ⟨?_, ?_, ?_, ?_, ?_, ?_⟩, ?_, ?_, ?_, ?_, ?_, ?_, ?_, ?_⟩
   all_goals first | (simp [go_sem]; done) | (simp; omega) | exact Z2q3
 case rest =>
  obtain ⟨k, rfl, ⟨hb, hz, r0, r1, f0, f1⟩, kw, kz, x0, x1, x2, y0, y1, y2⟩ := hcut
  have ca' := keepcell hb ca
  have ca1' := keepcell hb ca1
  have cb' := keepcell hb cb
  have cb1' := keepcell hb cb1
  have ct' := keepcell hb ct
  have la' : ba < wc.heap.size := by omega
  have lb' : bb < wc.heap.size := by omega
  have lt' : bt < wc.heap.size := by omega
  have na : ¬ k = ba := by omega
  have nb : ¬ k = bb := by omega
  have nt : ¬ k = bt := by omega
  have nr : ¬ k = w.heap.size := by omega
  have cA := ca
  have cA1 := ca1
  have cB1 := cb1
  clear ca ca1 cb cb1 ct
  generalize sz r * sz q1 / 18446744073709551616 = xh at *
  generalize sz r * sz q1 % 18446744073709551616 = xl at *
  generalize sz p * sz s1 / 18446744073709551616 = ph at *
  generalize sz p * sz s1 % 18446744073709551616 = pl at *
  generalize sg r q1 = xb at *
  generalize sg p s1 = pb at *
  have PP : ∃ xb2, WV (T - p * s1) xb2 xh xl ∧ xb2 = (if t = true then !xb else xb) := by
   cases t
   ·exact ⟨xb, by have := HT.out; simp at this; rw [← this, show p * s1 + r * q1 - p * s1 = r * q1 from by omega]; exact V2.out, rfl⟩
   ·exact ⟨!xb, by have := HT.out; simp at this; rw [← this, show p * s1 + -(r * q1) - p * s1 = -(r * q1) from by omega]; exact wv_neg V2.out, rfl⟩
  obtain ⟨xb2, hV, hxb⟩ := PP
  have PL := Lib.hid (fun W0 => plus_any _ _ _ _ _ _ _ _ W0 V1.out hV (by omega))
  rw [show p * s1 + (T - p * s1) = T from by omega] at PL
  clear hV m1 m2
  cases t
  ·simp only [Bool.false_eq_true, if_false] at hxb
   subst hxb
   go_upto_region 5 with (fail)
   refine wp_world (fun wx => InSum w wx ∧ WideAt w wx k xb2 xh xl) ⟨⟨hb, hz, r0, r1, f0, f1⟩, kw, kz, x0, x1, x2, y0, y1, y2⟩ ?_
   clear hb hz r0 r1 f0 f1 kw kz x0 x1 x2 y0 y1 y2 ca' ca1' cb' cb1' ct' la' lb' lt'
   rintro wx ⟨⟨hb, hz, r0, r1, f0, f1⟩, kw, kz, x0, x1, x2, y0, y1, y2⟩
   have ca' := keepcell hb cA
   have cb1' := keepcell hb cB1
   have la' : ba < wx.heap.size := by omega
   have lb' : bb < wx.heap.size := by omega
   go_cut [6] (fun s6 wy => ∃ m b3 h3 l3, s6 = .pointer (some ⟨m, 0, none⟩) ∧ InSum w wy ∧ WideAt w wy m b3 h3 l3 ∧ WV T b3 h3 l3)
   case first =>
    clear hp hq hr hs q0 s0 sq ss qlt slt gg d0 d1 k1 i1 i2 wd wq1 ws1 wq1' g0 g1 gn k3 i3 wg' ws2' P3 t0 GG V3 HF HT V1 V2 P1 cA cA1 cB1
    have la3 : ba < wx.heap.size + 1 := by omega
    have lb3 : bb < wx.heap.size + 1 := by omega
    have kz3 : k < wx.heap.size + 1 := by omega
    have la4 : ba < wx.heap.size + 1 + 1 := by omega
    have lb4 : bb < wx.heap.size + 1 + 1 := by omega
    have kz4 : k < wx.heap.size + 1 + 1 := by omega
    refine wp_region_held_drew (S := (fun w' => w'.cell? ⟨ba, 0, none⟩ = some (.int .i64 p) ∧ w'.cell? ⟨bb, 1, none⟩ = some (.int .i64 s) ∧ w'.cell? ⟨k, 0, none⟩ = some (.bool xb2) ∧ w'.cell? ⟨k, 1, none⟩ = some (.int .u64 xh) ∧ w'.cell? ⟨k, 2, none⟩ = some (.int .u64 xl))) Z2q0 ?_ (fun hHeld => ?_)
    ·exact Z2q4
    iterate 8 (first | refine tk0.go ?_ | refine tk1.go ?_ | refine tk2.go ?_ | refine tk3.go ?_ | refine tk4.go ?_ | refine tk5.go ?_ | refine tk6.go ?_ | refine tk8.go ?_)
    refine wpAnyH_ready (rs := [7, 10]) Z2q0 (by simp) (ac7 (fun K hK => ?_) (ac10 (fun K hK => ?_) (AllReadyH.nil)))
    focus go_simp
    focus (refine (P2.out _).mono ?_; rintro e w1 ⟨rfl, rfl⟩)
    focus try simp only []
    refine hK.out _ _ ?_ (fun hHeld => ?_)
    ·exact Z2q4
    focus (clear hK K; refine Zp2q ?_)
    refine wpAnyH_ready (rs := [9, 10]) Z2q0 (by simp) (ac9 (fun K hK => ?_) (ac10 (fun K hK => ?_) (AllReadyH.nil)))
    focus go_simp
    focus (refine (PL.out _).mono ?_; rintro e w4 ⟨⟨b3, h3, l3, rfl, hv⟩, hb4⟩; have hv' := Lib.hid hv; clear hv; obtain ⟨g1, g2, g3⟩ := bgrow hb4)
    focus try simp only []
    refine hK.out _ _ ?_ (fun hHeld => ?_)
    ·exact Z2q4
    focus (clear hK K; refine Zp2q ?_)
    refine wpAnyH_ready (rs := [10]) Z2q0 (by simp) (ac10 (fun K hK => ?_) (AllReadyH.nil))
    focus go_simp
    refine hK.out _ _ ?_ (fun hHeld => ?_)
    ·exact Z2q4
    focus (clear hK K; refine Zp2q ?_)
    refine wpAnyH_ready (rs := [11]) Z2q0 (by simp) (ac11 (fun K hK => ?_) (AllReadyH.nil))
    focus go_simp
    refine hK.out _ _ ?_ (fun hHeld => ?_)
    ·exact Z2q4
    focus (clear hK K; refine Zp2q ?_)
    refine wpAnyH_done Z2q0 ?_ _; rotate_left 1
    focus go_simp
    refine hK.out _ _ ?_ (fun hHeld => ?_)
    ·exact Z2q4
    focus (clear hK K; refine Zp2q ?_)
    refine wpAnyH_ready (rs := [9]) Z2q0 (by simp) (ac9 (fun K hK => ?_) (AllReadyH.nil))
    focus go_simp
    focus (refine (PL.out _).mono ?_; rintro e w4 ⟨⟨b3, h3, l3, rfl, hv⟩, hb4⟩; have hv' := Lib.hid hv; clear hv; obtain ⟨g1, g2, g3⟩ := bgrow hb4)
    focus try simp only []
    refine hK.out _ _ ?_ (fun hHeld => ?_)
    ·exact Z2q4
    focus (clear hK K; refine Zp2q ?_)
    refine wpAnyH_ready (rs := [11]) Z2q0 (by simp) (ac11 (fun K hK => ?_) (AllReadyH.nil))
    focus go_simp
    refine hK.out _ _ ?_ (fun hHeld => ?_)
    ·exact Z2q4
    focus (clear hK K; refine Zp2q ?_)
    refine wpAnyH_done Z2q0 ?_ _; rotate_left 1
    focus go_simp
    refine hK.out _ _ ?_ (fun hHeld => ?_)
    ·exact Z2q4
    focus (clear hK K; refine Zp2q ?_)
    refine wpAnyH_ready (rs := [7]) Z2q0 (by simp) (ac7 (fun K hK => ?_) (AllReadyH.nil))
    focus go_simp
    focus (refine (P2.out _).mono ?_; rintro e w1 ⟨rfl, rfl⟩)
    focus try simp only []
    refine hK.out _ _ ?_ (fun hHeld => ?_)
    ·exact Z2q4
    focus (clear hK K; refine Zp2q ?_)
    refine wpAnyH_ready (rs := [9]) Z2q0 (by simp) (ac9 (fun K hK => ?_) (AllReadyH.nil))
    focus go_simp
    focus (refine (PL.out _).mono ?_; rintro e w4 ⟨⟨b3, h3, l3, rfl, hv⟩, hb4⟩; have hv' := Lib.hid hv; clear hv; obtain ⟨g1, g2, g3⟩ := bgrow hb4)
    focus try simp only []
    refine hK.out _ _ ?_ (fun hHeld => ?_)
    ·exact Z2q4
    focus (clear hK K; refine Zp2q ?_)
    refine wpAnyH_ready (rs := [11]) Z2q0 (by simp) (ac11 (fun K hK => ?_) (AllReadyH.nil))
    focus go_simp
    refine hK.out _ _ ?_ (fun hHeld => ?_)
    ·exact Z2q4
    focus (clear hK K; refine Zp2q ?_)
    refine wpAnyH_done Z2q0 ?_ _; rotate_left 1
    all_goals
     go_wp2_with fail
     go_meet
    all_goals
     have hbw : Below w.heap.size w w4 := by refine Below.trans ?_ (hb4.mono Z2q5); exact Z2q3
     have hz4 : wx.heap.size ≤ w4.heap.size := by have := hb4.size; simp at this; omega
     have hzr : w.heap.size < wx.heap.size + 1 := by omega
     have hzr2 : w.heap.size < wx.heap.size + 1 + 1 := by omega
     have R0 : w4.cell? ⟨w.heap.size, 0, none⟩ = some (.int .i64 0) := keepcell hb4 (by simp [go_sem, r0, hz, hzr, hzr2]; done)
     have R1 : w4.cell? ⟨w.heap.size, 1, none⟩ = some (.int .i64 0) := keepcell hb4 (by simp [go_sem, r1, hz, hzr, hzr2]; done)
     have F0 : w4.frozen? ⟨w.heap.size, 0, none⟩ = false := by rw [g2 _ _ Z2q5]; simp [go_sem, f0, hz, hzr, hzr2]
     have F1 : w4.frozen? ⟨w.heap.size, 1, none⟩ = false := by rw [g2 _ _ Z2q5]; simp [go_sem, f1, hz, hzr, hzr2]
     have Z4 : w.heap.size < w4.heap.size := by omega
     have NW : ¬ w4.heap.size = w.heap.size := by omega
     clear hHeld
     have M0 : (w4.cell? ⟨wx.heap.size, 0, none⟩).isSome = true := by rw [g1 _ _ Z2q5]; simp [go_sem]
     have M1 : (w4.cell? ⟨wx.heap.size, 1, none⟩).isSome = true := by rw [g1 _ _ Z2q5]; simp [go_sem]
     have M2 : (w4.cell? ⟨wx.heap.size, 2, none⟩).isSome = true := by rw [g1 _ _ Z2q5]; simp [go_sem]
     refine ⟨_, b3, h3, l3, rfl, ⟨?_, ?_, ?_, ?_, ?_, ?_⟩, ⟨?_, ?_, ?_, ?_, ?_, ?_, ?_, ?_⟩, hv'.out⟩
    all_goals first | (simp [go_sem, *]; done) | (simp; omega) | exact Z2q3
   case rest =>
    clear hb hz r0 r1 f0 f1 kw kz x0 x1 x2 y0 y1 y2 ca' cb1' la' lb' na nb nt nr
    obtain ⟨m, b3, h3, l3, rfl, ⟨hb, hz, r0, r1, f0, f1⟩, ⟨kw, kz, x0, x1, x2, y0, y1, y2⟩, hV⟩ := hcut
    have HV := Lib.hid hV
    have ca1' := keepcell hb cA1
    have cb1' := keepcell hb cB1
    have la' : ba < wc.heap.size := by omega
    have lb' : bb < wc.heap.size := by omega
    have la3 : ba < wc.heap.size + 1 := by omega
    have lb3 : bb < wc.heap.size + 1 := by omega
    have kz3 : m < wc.heap.size + 1 := by omega
    have la4 : ba < wc.heap.size + 1 + 1 := by omega
    have lb4 : bb < wc.heap.size + 1 + 1 := by omega
    have kz4 : m < wc.heap.size + 1 + 1 := by omega
    have la5 : ba < wc.heap.size + 1 + 1 + 1 := by omega
    have lb5 : bb < wc.heap.size + 1 + 1 + 1 := by omega
    have kz5 : m < wc.heap.size + 1 + 1 + 1 := by omega
    have ldA : ∀ n, ba < (wc.drewN n).heap.size := fun _ => la'
    have ldB : ∀ n, bb < (wc.drewN n).heap.size := fun _ => lb'
    have ldM : ∀ n, m < (wc.drewN n).heap.size := fun _ => kz
    have ldR : ∀ n, w.heap.size < (wc.drewN n).heap.size := fun _ => hz
    have rz3 : w.heap.size < wc.heap.size + 1 := by omega
    have rz4 : w.heap.size < wc.heap.size + 1 + 1 := by omega
    have rz5 : w.heap.size < wc.heap.size + 1 + 1 + 1 := by omega
    have RM := Lib.hid (fun W0 => rem64_any h3 l3 d W0 hV.1 hV.2.2.1 hV.2.2.2.1 d0 (by omega))
    have OV := Lib.hid (fun W0 => over_any b3 h3 l3 g W0 hV.1 hV.2.1 hV.2.2.1 hV.2.2.2.1 g0 (by omega))
    have RR := Lib.hid (fun W0 => rat_ok (wv_over HV.out g0 (by omega)) V3.out HF.out.1 HF.out.2 W0)
    rw [wv_sz hV] at RM
    clear hV hp hq hr hs q0 s0 sq ss qlt slt gg wd wq1 ws1 k2 ws1' P1 P2 PL HT V1 V2 cA cA1 cB1
    go_wp2_with fail
    refine (RM.out _).mono ?_
    rintro e w1 ⟨rfl, n6, rfl⟩
    go_wp2_with fail
    refine (GG.out _).mono ?_
    rintro e w1 ⟨rfl, n7, rfl⟩
    go_upto_region 8 with (fail)
    refine wp_region_held_drew (S := (fun w' => w'.cell? ⟨ba, 1, none⟩ = some (.int .i64 q) ∧ w'.cell? ⟨bb, 1, none⟩ = some (.int .i64 s) ∧ w'.cell? ⟨m, 0, none⟩ = some (.bool b3) ∧ w'.cell? ⟨m, 1, none⟩ = some (.int .u64 h3) ∧ w'.cell? ⟨m, 2, none⟩ = some (.int .u64 l3))) Z2q0 ?_ (fun hHeld => ?_)
    ·exact Z2q6
    iterate 12 (first | refine tk0.go ?_ | refine tk1.go ?_ | refine tk3.go ?_ | refine tk4.go ?_ | refine tk5.go ?_ | refine tk6.go ?_ | refine tk7.go ?_ | refine tk8.go ?_ | refine tk9.go ?_ | refine tk10.go ?_ | refine tk11.go ?_ | refine tk12.go ?_)
    refine wpAnyH_ready (rs := [2]) Z2q0 (by simp) (ac2 (fun K hK => ?_) (AllReadyH.nil))
    focus go_simp
    focus (refine (OV.out _).mono ?_; rintro e w1 ⟨rfl, n8, rfl⟩)
    focus try simp only []
    refine hK.out _ _ ?_ (fun hHeld => ?_)
    ·exact Z2q6
    focus (clear hK K; refine Zp2q ?_)
    refine wpAnyH_ready (rs := [13]) Z2q0 (by simp) (ac13 (fun K hK => ?_) (AllReadyH.nil))
    focus go_simp
    focus (refine (P3.out _).mono ?_; rintro e w1 ⟨rfl, rfl⟩)
    focus try simp only []
    refine hK.out _ _ ?_ (fun hHeld => ?_)
    ·exact Z2q6
    focus (clear hK K; refine Zp2q ?_)
    refine wpAnyH_ready (rs := [14]) Z2q0 (by simp) (ac14 (fun K hK => ?_) (AllReadyH.nil))
    focus go_simp
    focus (refine (RR.out _).mono ?_; rintro e w5 ⟨rfl, hb5⟩; have K0 : w5.cell? ⟨w.heap.size, 0, none⟩ = some (.int .i64 0) := keepcell hb5 (keepcell (W := wc) Z2q3 r0); have K1 : w5.cell? ⟨w.heap.size, 1, none⟩ = some (.int .i64 0) := keepcell hb5 (keepcell (W := wc) Z2q3 r1); have F0 : w5.frozen? ⟨w.heap.size, 0, none⟩ = false := (hb5.frozen (p := ⟨w.heap.size, 0, none⟩) Z2q5).trans ((Below.frozen (B := wc.heap.size) Z2q3 (p := ⟨w.heap.size, 0, none⟩) hz).trans f0); have F1 : w5.frozen? ⟨w.heap.size, 1, none⟩ = false := (hb5.frozen (p := ⟨w.heap.size, 1, none⟩) Z2q5).trans ((Below.frozen (B := wc.heap.size) Z2q3 (p := ⟨w.heap.size, 1, none⟩) hz).trans f1))
    focus try simp only []
    refine hK.out _ _ ?_ (fun hHeld => ?_)
    ·exact Z2q6
    focus (clear hK K; refine Zp2q ?_)
    refine wpAnyH_ready (rs := [15]) Z2q0 (by simp) (ac15 (fun K hK => ?_) (AllReadyH.nil))
    focus go_simp
    refine hK.out _ _ ?_ (fun hHeld => ?_)
    ·exact Z2q6
    focus (clear hK K; refine Zp2q ?_)
    refine wpAnyH_done Z2q0 ?_ _; rotate_left 1
    go_wp2
    have hbw : Below w.heap.size w w5 := by refine Below.trans ?_ (hb5.mono Z2q5); exact Z2q3
    have K0 : w5.cell? ⟨w.heap.size, 0, none⟩ = some (.int .i64 0) := keepcell hb5 (keepcell (W := wc) Z2q3 r0)
    have K1 : w5.cell? ⟨w.heap.size, 1, none⟩ = some (.int .i64 0) := keepcell hb5 (keepcell (W := wc) Z2q3 r1)
    exact bodyPost_ret (v := RV (quo0 T g) (q1 * s2)) (by simp [results, Tryz.results127, go_sem, K0, K1]) rfl ⟨rfl, Z2q3⟩
  ·simp only [if_true] at hxb
   subst hxb
   go_wp2_with fail
   refine (neg_any _ _ _ _).mono ?_
   rintro e w1 ⟨rfl, rfl⟩
   go_upto_region 5 with (fail)
   refine wp_world (fun wx => InSum w wx ∧ WideAt w wx k (!xb) xh xl) ?_ ?_
   ·refine ⟨⟨?_, ?_, ?_, ?_, ?_, ?_⟩, ?_, ?_, ?_, ?_, ?_, ?_, ?_, ?_⟩
    all_goals first | (simp [go_sem, *]; done) | (simp; omega) | exact Z2q3
   clear hb hz r0 r1 f0 f1 kw kz x0 x1 x2 y0 y1 y2 ca' ca1' cb' cb1' ct' la' lb' lt'
   rintro wx ⟨⟨hb, hz, r0, r1, f0, f1⟩, kw, kz, x0, x1, x2, y0, y1, y2⟩
   have ca' := keepcell hb cA
   have cb1' := keepcell hb cB1
   have la' : ba < wx.heap.size := by omega
   have lb' : bb < wx.heap.size := by omega
   go_cut [6] (fun s6 wy => ∃ m b3 h3 l3, s6 = .pointer (some ⟨m, 0, none⟩) ∧ InSum w wy ∧ WideAt w wy m b3 h3 l3 ∧ WV T b3 h3 l3)
   case first =>
    clear hp hq hr hs q0 s0 sq ss qlt slt gg d0 d1 k1 i1 i2 wd wq1 ws1 wq1' g0 g1 gn k3 i3 wg' ws2' P3 t0 GG V3 HF HT V1 V2 P1 cA cA1 cB1
    have la3 : ba < wx.heap.size + 1 := by omega
    have lb3 : bb < wx.heap.size + 1 := by omega
    have kz3 : k < wx.heap.size + 1 := by omega
    have la4 : ba < wx.heap.size + 1 + 1 := by omega
    have lb4 : bb < wx.heap.size + 1 + 1 := by omega
    have kz4 : k < wx.heap.size + 1 + 1 := by omega
    refine wp_region_held_drew (S := (fun w' => w'.cell? ⟨ba, 0, none⟩ = some (.int .i64 p) ∧ w'.cell? ⟨bb, 1, none⟩ = some (.int .i64 s) ∧ w'.cell? ⟨k, 0, none⟩ = some (.bool !xb) ∧ w'.cell? ⟨k, 1, none⟩ = some (.int .u64 xh) ∧ w'.cell? ⟨k, 2, none⟩ = some (.int .u64 xl))) Z2q0 ?_ (fun hHeld => ?_)
    ·exact Z2q4
    iterate 8 (first | refine tk0.go ?_ | refine tk1.go ?_ | refine tk2.go ?_ | refine tk3.go ?_ | refine tk4.go ?_ | refine tk5.go ?_ | refine tk6.go ?_ | refine tk8.go ?_)
    refine wpAnyH_ready (rs := [7, 10]) Z2q0 (by simp) (ac7 (fun K hK => ?_) (ac10 (fun K hK => ?_) (AllReadyH.nil)))
    focus go_simp
    focus (refine (P2.out _).mono ?_; rintro e w1 ⟨rfl, rfl⟩)
    focus try simp only []
    refine hK.out _ _ ?_ (fun hHeld => ?_)
    ·exact Z2q4
    focus (clear hK K; refine Zp2q ?_)
    refine wpAnyH_ready (rs := [9, 10]) Z2q0 (by simp) (ac9 (fun K hK => ?_) (ac10 (fun K hK => ?_) (AllReadyH.nil)))
    focus go_simp
    focus (refine (PL.out _).mono ?_; rintro e w4 ⟨⟨b3, h3, l3, rfl, hv⟩, hb4⟩; have hv' := Lib.hid hv; clear hv; obtain ⟨g1, g2, g3⟩ := bgrow hb4)
    focus try simp only []
    refine hK.out _ _ ?_ (fun hHeld => ?_)
    ·exact Z2q4
    focus (clear hK K; refine Zp2q ?_)
    refine wpAnyH_ready (rs := [10]) Z2q0 (by simp) (ac10 (fun K hK => ?_) (AllReadyH.nil))
    focus go_simp
    refine hK.out _ _ ?_ (fun hHeld => ?_)
    ·exact Z2q4
    focus (clear hK K; refine Zp2q ?_)
    refine wpAnyH_ready (rs := [11]) Z2q0 (by simp) (ac11 (fun K hK => ?_) (AllReadyH.nil))
    focus go_simp
    refine hK.out _ _ ?_ (fun hHeld => ?_)
    ·exact Z2q4
    focus (clear hK K; refine Zp2q ?_)
    refine wpAnyH_done Z2q0 ?_ _; rotate_left 1
    focus go_simp
    refine hK.out _ _ ?_ (fun hHeld => ?_)
    ·exact Z2q4
    focus (clear hK K; refine Zp2q ?_)
    refine wpAnyH_ready (rs := [9]) Z2q0 (by simp) (ac9 (fun K hK => ?_) (AllReadyH.nil))
    focus go_simp
    focus (refine (PL.out _).mono ?_; rintro e w4 ⟨⟨b3, h3, l3, rfl, hv⟩, hb4⟩; have hv' := Lib.hid hv; clear hv; obtain ⟨g1, g2, g3⟩ := bgrow hb4)
    focus try simp only []
    refine hK.out _ _ ?_ (fun hHeld => ?_)
    ·exact Z2q4
    focus (clear hK K; refine Zp2q ?_)
    refine wpAnyH_ready (rs := [11]) Z2q0 (by simp) (ac11 (fun K hK => ?_) (AllReadyH.nil))
    focus go_simp
    refine hK.out _ _ ?_ (fun hHeld => ?_)
    ·exact Z2q4
    focus (clear hK K; refine Zp2q ?_)
    refine wpAnyH_done Z2q0 ?_ _; rotate_left 1
    focus go_simp
    refine hK.out _ _ ?_ (fun hHeld => ?_)
    ·exact Z2q4
    focus (clear hK K; refine Zp2q ?_)
    refine wpAnyH_ready (rs := [7]) Z2q0 (by simp) (ac7 (fun K hK => ?_) (AllReadyH.nil))
    focus go_simp
    focus (refine (P2.out _).mono ?_; rintro e w1 ⟨rfl, rfl⟩)
    focus try simp only []
    refine hK.out _ _ ?_ (fun hHeld => ?_)
    ·exact Z2q4
    focus (clear hK K; refine Zp2q ?_)
    refine wpAnyH_ready (rs := [9]) Z2q0 (by simp) (ac9 (fun K hK => ?_) (AllReadyH.nil))
    focus go_simp
    focus (refine (PL.out _).mono ?_; rintro e w4 ⟨⟨b3, h3, l3, rfl, hv⟩, hb4⟩; have hv' := Lib.hid hv; clear hv; obtain ⟨g1, g2, g3⟩ := bgrow hb4)
    focus try simp only []
    refine hK.out _ _ ?_ (fun hHeld => ?_)
    ·exact Z2q4
    focus (clear hK K; refine Zp2q ?_)
    refine wpAnyH_ready (rs := [11]) Z2q0 (by simp) (ac11 (fun K hK => ?_) (AllReadyH.nil))
    focus go_simp
    refine hK.out _ _ ?_ (fun hHeld => ?_)
    ·exact Z2q4
    focus (clear hK K; refine Zp2q ?_)
    refine wpAnyH_done Z2q0 ?_ _; rotate_left 1
    all_goals
     go_wp2_with fail
     go_meet
    all_goals
     have hbw : Below w.heap.size w w4 := by refine Below.trans ?_ (hb4.mono Z2q5); exact Z2q3
     have hz4 : wx.heap.size ≤ w4.heap.size := by have := hb4.size; simp at this; omega
     have hzr : w.heap.size < wx.heap.size + 1 := by omega
     have hzr2 : w.heap.size < wx.heap.size + 1 + 1 := by omega
     have R0 : w4.cell? ⟨w.heap.size, 0, none⟩ = some (.int .i64 0) := keepcell hb4 (by simp [go_sem, r0, hz, hzr, hzr2]; done)
     have R1 : w4.cell? ⟨w.heap.size, 1, none⟩ = some (.int .i64 0) := keepcell hb4 (by simp [go_sem, r1, hz, hzr, hzr2]; done)
     have F0 : w4.frozen? ⟨w.heap.size, 0, none⟩ = false := by rw [g2 _ _ Z2q5]; simp [go_sem, f0, hz, hzr, hzr2]
     have F1 : w4.frozen? ⟨w.heap.size, 1, none⟩ = false := by rw [g2 _ _ Z2q5]; simp [go_sem, f1, hz, hzr, hzr2]
     have Z4 : w.heap.size < w4.heap.size := by omega
     have NW : ¬ w4.heap.size = w.heap.size := by omega
     clear hHeld
     have M0 : (w4.cell? ⟨wx.heap.size, 0, none⟩).isSome = true := by rw [g1 _ _ Z2q5]; simp [go_sem]
     have M1 : (w4.cell? ⟨wx.heap.size, 1, none⟩).isSome = true := by rw [g1 _ _ Z2q5]; simp [go_sem]
     have M2 : (w4.cell? ⟨wx.heap.size, 2, none⟩).isSome = true := by rw [g1 _ _ Z2q5]; simp [go_sem]
     refine ⟨_, b3, h3, l3, rfl, ⟨?_, ?_, ?_, ?_, ?_, ?_⟩, ⟨?_, ?_, ?_, ?_, ?_, ?_, ?_, ?_⟩, hv'.out⟩
    all_goals first | (simp [go_sem, *]; done) | (simp; omega) | exact Z2q3
   case rest =>
    clear hb hz r0 r1 f0 f1 kw kz x0 x1 x2 y0 y1 y2 ca' cb1' la' lb' na nb nt nr
    obtain ⟨m, b3, h3, l3, rfl, ⟨hb, hz, r0, r1, f0, f1⟩, ⟨kw, kz, x0, x1, x2, y0, y1, y2⟩, hV⟩ := hcut
    have HV := Lib.hid hV
    have ca1' := keepcell hb cA1
    have cb1' := keepcell hb cB1
    have la' : ba < wc.heap.size := by omega
    have lb' : bb < wc.heap.size := by omega
    have la3 : ba < wc.heap.size + 1 := by omega
    have lb3 : bb < wc.heap.size + 1 := by omega
    have kz3 : m < wc.heap.size + 1 := by omega
    have la4 : ba < wc.heap.size + 1 + 1 := by omega
    have lb4 : bb < wc.heap.size + 1 + 1 := by omega
    have kz4 : m < wc.heap.size + 1 + 1 := by omega
    have la5 : ba < wc.heap.size + 1 + 1 + 1 := by omega
    have lb5 : bb < wc.heap.size + 1 + 1 + 1 := by omega
    have kz5 : m < wc.heap.size + 1 + 1 + 1 := by omega
    have ldA : ∀ n, ba < (wc.drewN n).heap.size := fun _ => la'
    have ldB : ∀ n, bb < (wc.drewN n).heap.size := fun _ => lb'
    have ldM : ∀ n, m < (wc.drewN n).heap.size := fun _ => kz
    have ldR : ∀ n, w.heap.size < (wc.drewN n).heap.size := fun _ => hz
    have rz3 : w.heap.size < wc.heap.size + 1 := by omega
    have rz4 : w.heap.size < wc.heap.size + 1 + 1 := by omega
    have rz5 : w.heap.size < wc.heap.size + 1 + 1 + 1 := by omega
    have RM := Lib.hid (fun W0 => rem64_any h3 l3 d W0 hV.1 hV.2.2.1 hV.2.2.2.1 d0 (by omega))
    have OV := Lib.hid (fun W0 => over_any b3 h3 l3 g W0 hV.1 hV.2.1 hV.2.2.1 hV.2.2.2.1 g0 (by omega))
    have RR := Lib.hid (fun W0 => rat_ok (wv_over HV.out g0 (by omega)) V3.out HF.out.1 HF.out.2 W0)
    rw [wv_sz hV] at RM
    clear hV hp hq hr hs q0 s0 sq ss qlt slt gg wd wq1 ws1 k2 ws1' P1 P2 PL HT V1 V2 cA cA1 cB1
    go_wp2_with fail
    refine (RM.out _).mono ?_
    rintro e w1 ⟨rfl, n6, rfl⟩
    go_wp2_with fail
    refine (GG.out _).mono ?_
    rintro e w1 ⟨rfl, n7, rfl⟩
    go_upto_region 8 with (fail)
    refine wp_region_held_drew (S := (fun w' => w'.cell? ⟨ba, 1, none⟩ = some (.int .i64 q) ∧ w'.cell? ⟨bb, 1, none⟩ = some (.int .i64 s) ∧ w'.cell? ⟨m, 0, none⟩ = some (.bool b3) ∧ w'.cell? ⟨m, 1, none⟩ = some (.int .u64 h3) ∧ w'.cell? ⟨m, 2, none⟩ = some (.int .u64 l3))) Z2q0 ?_ (fun hHeld => ?_)
    ·exact Z2q6
    iterate 12 (first | refine tk0.go ?_ | refine tk1.go ?_ | refine tk3.go ?_ | refine tk4.go ?_ | refine tk5.go ?_ | refine tk6.go ?_ | refine tk7.go ?_ | refine tk8.go ?_ | refine tk9.go ?_ | refine tk10.go ?_ | refine tk11.go ?_ | refine tk12.go ?_)
    refine wpAnyH_ready (rs := [2]) Z2q0 (by simp) (ac2 (fun K hK => ?_) (AllReadyH.nil))
    focus go_simp
    focus (refine (OV.out _).mono ?_; rintro e w1 ⟨rfl, n8, rfl⟩)
    focus try simp only []
    refine hK.out _ _ ?_ (fun hHeld => ?_)
    ·exact Z2q6
    focus (clear hK K; refine Zp2q ?_)
    refine wpAnyH_ready (rs := [13]) Z2q0 (by simp) (ac13 (fun K hK => ?_) (AllReadyH.nil))
    focus go_simp
    focus (refine (P3.out _).mono ?_; rintro e w1 ⟨rfl, rfl⟩)
    focus try simp only []
    refine hK.out _ _ ?_ (fun hHeld => ?_)
    ·exact Z2q6
    focus (clear hK K; refine Zp2q ?_)
    refine wpAnyH_ready (rs := [14]) Z2q0 (by simp) (ac14 (fun K hK => ?_) (AllReadyH.nil))
    focus go_simp
    focus (refine (RR.out _).mono ?_; rintro e w5 ⟨rfl, hb5⟩; have K0 : w5.cell? ⟨w.heap.size, 0, none⟩ = some (.int .i64 0) := keepcell hb5 (keepcell (W := wc) Z2q3 r0); have K1 : w5.cell? ⟨w.heap.size, 1, none⟩ = some (.int .i64 0) := keepcell hb5 (keepcell (W := wc) Z2q3 r1); have F0 : w5.frozen? ⟨w.heap.size, 0, none⟩ = false := (hb5.frozen (p := ⟨w.heap.size, 0, none⟩) Z2q5).trans ((Below.frozen (B := wc.heap.size) Z2q3 (p := ⟨w.heap.size, 0, none⟩) hz).trans f0); have F1 : w5.frozen? ⟨w.heap.size, 1, none⟩ = false := (hb5.frozen (p := ⟨w.heap.size, 1, none⟩) Z2q5).trans ((Below.frozen (B := wc.heap.size) Z2q3 (p := ⟨w.heap.size, 1, none⟩) hz).trans f1))
    focus try simp only []
    refine hK.out _ _ ?_ (fun hHeld => ?_)
    ·exact Z2q6
    focus (clear hK K; refine Zp2q ?_)
    refine wpAnyH_ready (rs := [15]) Z2q0 (by simp) (ac15 (fun K hK => ?_) (AllReadyH.nil))
    focus go_simp
    refine hK.out _ _ ?_ (fun hHeld => ?_)
    ·exact Z2q6
    focus (clear hK K; refine Zp2q ?_)
    refine wpAnyH_done Z2q0 ?_ _; rotate_left 1
    go_wp2
    have hbw : Below w.heap.size w w5 := by refine Below.trans ?_ (hb5.mono Z2q5); exact Z2q3
    have K0 : w5.cell? ⟨w.heap.size, 0, none⟩ = some (.int .i64 0) := keepcell hb5 (keepcell (W := wc) Z2q3 r0)
    have K1 : w5.cell? ⟨w.heap.size, 1, none⟩ = some (.int .i64 0) := keepcell hb5 (keepcell (W := wc) Z2q3 r1)
    exact bodyPost_ret (v := RV (quo0 T g) (q1 * s2)) (by simp [results, Tryz.results127, go_sem, K0, K1]) rfl ⟨rfl, Z2q3⟩
end Go.Proofs.YtbpjnkeilhfajaaGreat.Num
