import Derived.Test.YtbpjnkeilhfajaaGreatTk
import Derived.Test.YtbpjnkeilhfajaaGreatNumN
import Derived.Test.YtbpjnkeilhfajaaGreatNumJ
section
/- The closure of num's Times. -/
namespace Go.Proofs
theorem Zp2s {p q : Prop} (hq : q) (h : p = q := by first | (simp only [Act.put, List.setIfInBounds_toArray, List.set_cons_zero, List.set_cons_succ]; done) | (simp only [Act.put, List.setIfInBounds_toArray, List.set_cons_zero, List.set_cons_succ]; rfl) | rfl) : p := Eq.mpr h hq
theorem Z2s0 {p : Prop} (h : p := by kernel_rfl) : p := h
theorem Z2s4 {p : Prop} (h : p := by repeat (first | exact Below.refl _ _ | with_reducible assumption | refine Below.alloc ?_ (by first | exact Nat.le_refl _ | (simp; done) | (simp; omega) | omega) _ | refine Below.setCell ?_ (by first | exact Nat.le_refl _ | (simp; done) | (simp; omega) | omega) _ | refine Below.drew ?_ | refine bdrewN ?_ _)) : p := h
theorem Z2s1 {p : Prop} (h : p := by exact ⟨keepcell (W := w) Z2s4 ca, keepcell (W := w) Z2s4 ca1, keepcell (W := w) Z2s4 cb, keepcell (W := w) Z2s4 cb1⟩) : p := h
theorem Z2s2 {p : Prop} (h : p := by first | exact Nat.le_refl _ | (simp; done) | (simp; omega) | omega) : p := h
theorem Z2s5 {p : Prop} (h : p := by first | exact Nat.le_refl _ | (simp; done) | (simp; omega) | omega) : p := h
theorem Z2s3 {p : Prop} (h : p := by repeat (first | exact Below.refl _ _ | with_reducible assumption | refine Below.alloc ?_ Z2s5 _ | refine Below.setCell ?_ Z2s5 _ | refine Below.drew ?_ | refine bdrewN ?_ _)) : p := h
end Go.Proofs
namespace Go.Proofs.YtbpjnkeilhfajaaGreat.Num
open Go.RowKit
set_option linter.unusedVariables false
set_option linter.unusedSimpArgs false
theorem wv_sizes {a b : Int} (c : Bool) (ha : 0 ≤ a) (ha2 : a ≤ 9223372036854775808) (hb : 0 ≤ b) (hb2 : b ≤ 9223372036854775808) :
  WV (if c = true then -(a * b) else a * b) c (a * b / 18446744073709551616) (a * b % 18446744073709551616) := by
 have hm := mul_bound ha ha2 hb hb2
 refine ⟨by omega, by omega, by omega, by omega, ?_⟩
 cases c <;> simp <;> omega
theorem ediv_bound {a g m : Int} (ha : 0 ≤ a) (ha2 : a ≤ m) (hg : 0 < g) : 0 ≤ a / g ∧ a / g ≤ m := by
 have := Int.ediv_nonneg ha (Int.le_of_lt hg)
 have := Int.ediv_le_self g ha
 omega
set_option maxHeartbeats 4000000 in
theorem times1_ok (p q r s g h pg rh qh sg' : Int) (ba bb : Nat) (w : World) (hp : In64 p) (hq : In64 q) (hr : In64 r) (hs : In64 s) (q0 : 0 < q) (s0 : 0 < s)
  (ca : w.cell? ⟨ba, 0, none⟩ = some (.int .i64 p)) (ca1 : w.cell? ⟨ba, 1, none⟩ = some (.int .i64 q)) (cb : w.cell? ⟨bb, 0, none⟩ = some (.int .i64 r)) (cb1 : w.cell? ⟨bb, 1, none⟩ = some (.int .i64 s))
  (hg : (Int.gcd p s : Int) = g) (hh : (Int.gcd r q : Int) = h) (hpg : sz p / g = pg) (hrh : sz r / h = rh) (hqh : q / h = qh) (hsg : s / g = sg')
  (X : Int) (hX : (if sg p r = true then -(pg * rh) else pg * rh) = X) (hfit : In64 X ∧ In64 (qh * sg')) :
  Calls Tryz.prog 118 #[.pointer (some ⟨ba, 0, none⟩), .pointer (some ⟨bb, 0, none⟩)] w fun e w' => e = .returned (RV X (qh * sg')) ∧ Below w.heap.size w w' := by
 have sp := Lib.hid (fun W0 => size_any p W0 hp.1 hp.2)
 have sq := Lib.hid (fun W0 => size_any q W0 hq.1 hq.2)
 have sr := Lib.hid (fun W0 => size_any r W0 hr.1 hr.2)
 have ss := Lib.hid (fun W0 => size_any s W0 hs.1 hs.2)
 have zq : sz q = q := by unfold sz; rw [if_neg (by omega)]
 have zs : sz s = s := by unfold sz; rw [if_neg (by omega)]
 rw [zq] at sq
 rw [zs] at ss
 have a1 := sz_nonneg p
 have a2 := sz_le hp.1 hp.2
 have b1 := sz_nonneg r
 have b2 := sz_le hr.1 hr.2
 have qlt := hq.2
 have slt := hs.2
 have G1 := Lib.hid (fun W0 => gcd_any (sz p) s W0 a1 (by omega) (by omega) (by omega))
 have G2 := Lib.hid (fun W0 => gcd_any (sz r) q W0 b1 (by omega) (by omega) (by omega))
 rw [show Int.gcd (sz p) s = Int.gcd p s by rw [← gcd_sz p s, zs], hg] at G1
 rw [show Int.gcd (sz r) q = Int.gcd r q by rw [← gcd_sz r q, zq], hh] at G2
 have g0 : 0 < g := by rw [← hg]; exact gcd_pos (by omega)
 have h0 : 0 < h := by rw [← hh]; exact gcd_pos (by omega)
 have g1 : g ≤ s := by
  rw [← hg]
  have := Int.gcd_le_natAbs_right (a := p) (b := s) (by omega)
  omega
 have h1 : h ≤ q := by
  rw [← hh]
  have := Int.gcd_le_natAbs_right (a := r) (b := q) (by omega)
  omega
 have gn : ¬ g = 0 := by omega
 have hn : ¬ h = 0 := by omega
 have e1 : IntKind.u64.wrap ((sz p).tdiv g) = pg := by rw [div_spell a1 (by omega) g0, hpg]
 have e2 : IntKind.u64.wrap ((sz r).tdiv h) = rh := by rw [div_spell b1 (by omega) h0, hrh]
 have bp := ediv_bound a1 a2 g0
 have br := ediv_bound b1 b2 h0
 rw [hpg] at bp
 rw [hrh] at br
 have bq := ediv_bound (a := q) (by omega) (Int.le_refl _) h0
 have bs := ediv_bound (a := s) (by omega) (Int.le_refl _) g0
 rw [hqh] at bq
 rw [hsg] at bs
 have i1 : In64 qh := ⟨by omega, by omega⟩
 have i2 : In64 sg' := ⟨by omega, by omega⟩
 have wg' : IntKind.i64.wrap g = g := wrapi_in ⟨by omega, by omega⟩
 have wh' : IntKind.i64.wrap h = h := wrapi_in ⟨by omega, by omega⟩
 have e3 : q.tdiv h = qh := by rw [Int.tdiv_eq_ediv_of_nonneg (by omega), hqh]
 have e4 : s.tdiv g = sg' := by rw [Int.tdiv_eq_ediv_of_nonneg (by omega), hsg]
 have e5 := wrapi_in i1
 have e6 := wrapi_in i2
 have MU := Lib.hid (fun W0 => mul64_any pg rh W0 bp.1 (by omega) br.1 (by omega))
 have PR := Lib.hid (fun W0 => product_any qh sg' W0 i1.1 i1.2 i2.1 i2.2)
 have RR := Lib.hid (fun W0 => rat_ok (hX ▸ wv_sizes (sg p r) bp.1 bp.2 br.1 br.2) (wv_mul i1 i2) hfit.1 hfit.2 W0)
 have hsgn := sg_spell p r
 have hz : w.heap.size < w.heap.size + 1 := by omega
 have la := cell_lt ca
 have lb := cell_lt cb
 clear hp hq hr hs q0 s0 hg hh hpg hrh hqh hsg hfit hX zq zs a1 a2 b1 b2 qlt slt g0 h0 g1 h1 bp br bq bs i1 i2
 generalize pg * rh / 18446744073709551616 = hi at *
 generalize pg * rh % 18446744073709551616 = lo at *
 go_enter Tryz.func118, Tryz.ntmps118
 go_wp2
 refine wp_region_held_drew (S := (fun w' => w'.cell? ⟨ba, 0, none⟩ = some (.int .i64 p) ∧ w'.cell? ⟨ba, 1, none⟩ = some (.int .i64 q) ∧ w'.cell? ⟨bb, 0, none⟩ = some (.int .i64 r) ∧ w'.cell? ⟨bb, 1, none⟩ = some (.int .i64 s))) Z2s0 ?_ (fun hHeld => ?_)
 ·exact Z2s1
 iterate 8 (first | refine tk0.go ?_ | refine tk1.go ?_ | refine tk3.go ?_ | refine tk4.go ?_ | refine tk7.go ?_ | refine tk8.go ?_ | refine tk10.go ?_ | refine tk11.go ?_)
 refine wpAnyH_ready (rs := [2]) Z2s0 (by simp) (ac2 (fun K hK => ?_) (AllReadyH.nil))
 focus go_simp
 focus (refine (sp.out _).mono ?_; rintro e w1 ⟨rfl, rfl⟩)
 focus try simp only []
 refine hK.out _ _ ?_ (fun hHeld => ?_)
 ·exact Z2s1
 focus (clear hK K; refine Zp2s ?_)
 refine wpAnyH_ready (rs := [5]) Z2s0 (by simp) (ac5 (fun K hK => ?_) (AllReadyH.nil))
 focus go_simp
 focus (refine (ss.out _).mono ?_; rintro e w1 ⟨rfl, rfl⟩)
 focus try simp only []
 refine hK.out _ _ ?_ (fun hHeld => ?_)
 ·exact Z2s1
 focus (clear hK K; refine Zp2s ?_)
 refine wpAnyH_ready (rs := [6]) Z2s0 (by simp) (ac6 (fun K hK => ?_) (AllReadyH.nil))
 focus go_simp
 focus (refine (G1.out _).mono ?_; rintro e w1 ⟨rfl, n1, rfl⟩)
 focus try simp only []
 refine hK.out _ _ ?_ (fun hHeld => ?_)
 ·exact Z2s1
 focus (clear hK K; refine Zp2s ?_)
 refine wpAnyH_ready (rs := [9]) Z2s0 (by simp) (ac9 (fun K hK => ?_) (AllReadyH.nil))
 focus go_simp
 focus (refine (sr.out _).mono ?_; rintro e w1 ⟨rfl, rfl⟩)
 focus try simp only []
 refine hK.out _ _ ?_ (fun hHeld => ?_)
 ·exact Z2s1
 focus (clear hK K; refine Zp2s ?_)
 refine wpAnyH_ready (rs := [12]) Z2s0 (by simp) (ac12 (fun K hK => ?_) (AllReadyH.nil))
 focus go_simp
 focus (refine (sq.out _).mono ?_; rintro e w1 ⟨rfl, rfl⟩)
 focus try simp only []
 refine hK.out _ _ ?_ (fun hHeld => ?_)
 ·exact Z2s1
 focus (clear hK K; refine Zp2s ?_)
 refine wpAnyH_ready (rs := [13]) Z2s0 (by simp) (ac13 (fun K hK => ?_) (AllReadyH.nil))
 focus go_simp
 focus (refine (G2.out _).mono ?_; rintro e w1 ⟨rfl, n2, rfl⟩)
 focus try simp only []
 refine hK.out _ _ ?_ (fun hHeld => ?_)
 ·exact Z2s1
 focus (clear hK K; refine Zp2s ?_)
 iterate 2 (first | refine tk14.go ?_ | refine tk15.go ?_)
 refine wpAnyH_done Z2s0 ?_ _; rotate_left 1
 go_upto_region 2 with (fail)
 refine wp_region_held_drew (S := (fun w' => w'.cell? ⟨ba, 0, none⟩ = some (.int .i64 p) ∧ w'.cell? ⟨ba, 1, none⟩ = some (.int .i64 q) ∧ w'.cell? ⟨bb, 0, none⟩ = some (.int .i64 r) ∧ w'.cell? ⟨bb, 1, none⟩ = some (.int .i64 s))) Z2s0 ?_ (fun hHeld => ?_)
 ·exact Z2s1
 iterate 6 (first | refine tk0.go ?_ | refine tk1.go ?_ | refine tk3.go ?_ | refine tk5.go ?_ | refine tk6.go ?_ | refine tk8.go ?_)
 refine wpAnyH_ready (rs := [2]) Z2s0 (by simp) (ac2 (fun K hK => ?_) (AllReadyH.nil))
 focus go_simp
 focus (refine (sp.out _).mono ?_; rintro e w1 ⟨rfl, rfl⟩)
 focus try simp only []
 refine hK.out _ _ ?_ (fun hHeld => ?_)
 ·exact Z2s1
 focus (clear hK K; refine Zp2s ?_)
 refine tk4.go ?_
 refine wpAnyH_ready (rs := [7]) Z2s0 (by simp) (ac7 (fun K hK => ?_) (AllReadyH.nil))
 focus go_simp
 focus (refine (sr.out _).mono ?_; rintro e w1 ⟨rfl, rfl⟩)
 focus try simp only []
 refine hK.out _ _ ?_ (fun hHeld => ?_)
 ·exact Z2s1
 focus (clear hK K; refine Zp2s ?_)
 refine tk9.go ?_
 refine wpAnyH_ready (rs := [10]) Z2s0 (by simp) (ac10 (fun K hK => ?_) (AllReadyH.nil))
 focus go_simp
 focus (refine (MU.out _).mono ?_; rintro e w1 ⟨rfl, rfl⟩)
 focus try simp only []
 refine hK.out _ _ ?_ (fun hHeld => ?_)
 ·exact Z2s1
 focus (clear hK K; refine Zp2s ?_)
 iterate 5 (first | refine tk11.go ?_ | refine tk12.go ?_ | refine tk13.go ?_ | refine tk14.go ?_ | refine tk15.go ?_)
 refine wpAnyH_done Z2s0 ?_ _; rotate_left 1
 go_upto_region 3 with (fail)
 refine wp_region_held_drew (S := (fun w' => w'.cell? ⟨ba, 0, none⟩ = some (.int .i64 p) ∧ w'.cell? ⟨ba, 1, none⟩ = some (.int .i64 q) ∧ w'.cell? ⟨bb, 0, none⟩ = some (.int .i64 r) ∧ w'.cell? ⟨bb, 1, none⟩ = some (.int .i64 s))) Z2s0 ?_ (fun hHeld => ?_)
 ·exact Z2s1
 iterate 20 (first | refine tk0.go ?_ | refine tk1.go ?_ | refine tk2.go ?_ | refine tk3.go ?_ | refine tk4.go ?_ | refine tk5.go ?_ | refine tk6.go ?_ | refine tk7.go ?_ | refine tk8.go ?_ | refine tk9.go ?_ | refine tk10.go ?_ | refine tk11.go ?_ | refine tk12.go ?_ | refine tk13.go ?_ | refine tk14.go ?_ | refine tk15.go ?_ | refine tk16.go ?_ | refine tk17.go ?_ | refine tk18.go ?_ | refine tk19.go ?_)
 refine wpAnyH_ready (rs := [20]) Z2s0 (by simp) (ac20 (fun K hK => ?_) (AllReadyH.nil))
 focus go_simp
 focus (refine (PR.out _).mono ?_; rintro e w1 ⟨rfl, rfl⟩)
 focus try simp only []
 refine hK.out _ _ ?_ (fun hHeld => ?_)
 ·exact Z2s1
 focus (clear hK K; refine Zp2s ?_)
 refine wpAnyH_ready (rs := [21]) Z2s0 (by simp) (ac21 (fun K hK => ?_) (AllReadyH.nil))
 focus go_simp
 focus (refine (RR.out _).mono ?_; rintro e w5 ⟨rfl, hb5⟩; have K0 : w5.cell? ⟨w.heap.size, 0, none⟩ = some (.int .i64 0) := keepcell hb5 (by simp [go_sem, hz]; done); have K1 : w5.cell? ⟨w.heap.size, 1, none⟩ = some (.int .i64 0) := keepcell hb5 (by simp [go_sem, hz]; done); have F0 : w5.frozen? ⟨w.heap.size, 0, none⟩ = false := (hb5.frozen (p := ⟨w.heap.size, 0, none⟩) Z2s2).trans (by simp [go_sem, hz]; done); have F1 : w5.frozen? ⟨w.heap.size, 1, none⟩ = false := (hb5.frozen (p := ⟨w.heap.size, 1, none⟩) Z2s2).trans (by simp [go_sem, hz]; done))
 focus try simp only []
 refine hK.out _ _ ?_ (fun hHeld => ?_)
 ·exact ⟨keepcell hb5 (keepcell (W := w) Z2s3 ca), keepcell hb5 (keepcell (W := w) Z2s3 ca1), keepcell hb5 (keepcell (W := w) Z2s3 cb), keepcell hb5 (keepcell (W := w) Z2s3 cb1)⟩
 focus (clear hK K; refine Zp2s ?_)
 refine wpAnyH_ready (rs := [22]) Z2s0 (by simp) (ac22 (fun K hK => ?_) (AllReadyH.nil))
 focus go_simp
 refine hK.out _ _ ?_ (fun hHeld => ?_)
 ·exact ⟨keepset (by omega) (keepset (by omega) (keepcell hb5 (keepcell (W := w) Z2s3 ca))), keepset (by omega) (keepset (by omega) (keepcell hb5 (keepcell (W := w) Z2s3 ca1))), keepset (by omega) (keepset (by omega) (keepcell hb5 (keepcell (W := w) Z2s3 cb))), keepset (by omega) (keepset (by omega) (keepcell hb5 (keepcell (W := w) Z2s3 cb1)))⟩
 focus (clear hK K; refine Zp2s ?_)
 refine wpAnyH_done Z2s0 ?_ _; rotate_left 1
 go_wp2
 have hbw : Below w.heap.size w w5 := by refine Below.trans ?_ (hb5.mono Z2s2); exact Z2s3
 exact bodyPost_ret (v := RV X (qh * sg')) (by simp [results, Tryz.results118, go_sem, K0, K1]) rfl ⟨rfl, Z2s3⟩
set_option maxHeartbeats 4000000 in
theorem times1_no (p q r s g h pg rh qh sg' : Int) (ba bb : Nat) (w : World) (hp : In64 p) (hq : In64 q) (hr : In64 r) (hs : In64 s) (q0 : 0 < q) (s0 : 0 < s)
  (ca : w.cell? ⟨ba, 0, none⟩ = some (.int .i64 p)) (ca1 : w.cell? ⟨ba, 1, none⟩ = some (.int .i64 q)) (cb : w.cell? ⟨bb, 0, none⟩ = some (.int .i64 r)) (cb1 : w.cell? ⟨bb, 1, none⟩ = some (.int .i64 s))
  (hg : (Int.gcd p s : Int) = g) (hh : (Int.gcd r q : Int) = h) (hpg : sz p / g = pg) (hrh : sz r / h = rh) (hqh : q / h = qh) (hsg : s / g = sg')
  (X : Int) (hX : (if sg p r = true then -(pg * rh) else pg * rh) = X) (hfit : ¬ (In64 X ∧ In64 (qh * sg'))) :
  Calls Tryz.prog 118 #[.pointer (some ⟨ba, 0, none⟩), .pointer (some ⟨bb, 0, none⟩)] w fun e w' => e = .panicked LargeP ∧ Below w.heap.size w w' := by
 have sp := Lib.hid (fun W0 => size_any p W0 hp.1 hp.2)
 have sq := Lib.hid (fun W0 => size_any q W0 hq.1 hq.2)
 have sr := Lib.hid (fun W0 => size_any r W0 hr.1 hr.2)
 have ss := Lib.hid (fun W0 => size_any s W0 hs.1 hs.2)
 have zq : sz q = q := by unfold sz; rw [if_neg (by omega)]
 have zs : sz s = s := by unfold sz; rw [if_neg (by omega)]
 rw [zq] at sq
 rw [zs] at ss
 have a1 := sz_nonneg p
 have a2 := sz_le hp.1 hp.2
 have b1 := sz_nonneg r
 have b2 := sz_le hr.1 hr.2
 have qlt := hq.2
 have slt := hs.2
 have G1 := Lib.hid (fun W0 => gcd_any (sz p) s W0 a1 (by omega) (by omega) (by omega))
 have G2 := Lib.hid (fun W0 => gcd_any (sz r) q W0 b1 (by omega) (by omega) (by omega))
 rw [show Int.gcd (sz p) s = Int.gcd p s by rw [← gcd_sz p s, zs], hg] at G1
 rw [show Int.gcd (sz r) q = Int.gcd r q by rw [← gcd_sz r q, zq], hh] at G2
 have g0 : 0 < g := by rw [← hg]; exact gcd_pos (by omega)
 have h0 : 0 < h := by rw [← hh]; exact gcd_pos (by omega)
 have g1 : g ≤ s := by
  rw [← hg]
  have := Int.gcd_le_natAbs_right (a := p) (b := s) (by omega)
  omega
 have h1 : h ≤ q := by
  rw [← hh]
  have := Int.gcd_le_natAbs_right (a := r) (b := q) (by omega)
  omega
 have gn : ¬ g = 0 := by omega
 have hn : ¬ h = 0 := by omega
 have e1 : IntKind.u64.wrap ((sz p).tdiv g) = pg := by rw [div_spell a1 (by omega) g0, hpg]
 have e2 : IntKind.u64.wrap ((sz r).tdiv h) = rh := by rw [div_spell b1 (by omega) h0, hrh]
 have bp := ediv_bound a1 a2 g0
 have br := ediv_bound b1 b2 h0
 rw [hpg] at bp
 rw [hrh] at br
 have bq := ediv_bound (a := q) (by omega) (Int.le_refl _) h0
 have bs := ediv_bound (a := s) (by omega) (Int.le_refl _) g0
 rw [hqh] at bq
 rw [hsg] at bs
 have i1 : In64 qh := ⟨by omega, by omega⟩
 have i2 : In64 sg' := ⟨by omega, by omega⟩
 have wg' : IntKind.i64.wrap g = g := wrapi_in ⟨by omega, by omega⟩
 have wh' : IntKind.i64.wrap h = h := wrapi_in ⟨by omega, by omega⟩
 have e3 : q.tdiv h = qh := by rw [Int.tdiv_eq_ediv_of_nonneg (by omega), hqh]
 have e4 : s.tdiv g = sg' := by rw [Int.tdiv_eq_ediv_of_nonneg (by omega), hsg]
 have e5 := wrapi_in i1
 have e6 := wrapi_in i2
 have MU := Lib.hid (fun W0 => mul64_any pg rh W0 bp.1 (by omega) br.1 (by omega))
 have PR := Lib.hid (fun W0 => product_any qh sg' W0 i1.1 i1.2 i2.1 i2.2)
 have RR := Lib.hid (fun W0 => rat_no (hX ▸ wv_sizes (sg p r) bp.1 bp.2 br.1 br.2) (wv_mul i1 i2) hfit W0)
 have hsgn := sg_spell p r
 have hz : w.heap.size < w.heap.size + 1 := by omega
 have la := cell_lt ca
 have lb := cell_lt cb
 clear hp hq hr hs q0 s0 hg hh hpg hrh hqh hsg hfit hX zq zs a1 a2 b1 b2 qlt slt g0 h0 g1 h1 bp br bq bs i1 i2
 generalize pg * rh / 18446744073709551616 = hi at *
 generalize pg * rh % 18446744073709551616 = lo at *
 go_enter Tryz.func118, Tryz.ntmps118
 go_wp2
 refine wp_region_held_drew (S := (fun w' => w'.cell? ⟨ba, 0, none⟩ = some (.int .i64 p) ∧ w'.cell? ⟨ba, 1, none⟩ = some (.int .i64 q) ∧ w'.cell? ⟨bb, 0, none⟩ = some (.int .i64 r) ∧ w'.cell? ⟨bb, 1, none⟩ = some (.int .i64 s))) Z2s0 ?_ (fun hHeld => ?_)
 ·exact Z2s1
 iterate 8 (first | refine tk0.go ?_ | refine tk1.go ?_ | refine tk3.go ?_ | refine tk4.go ?_ | refine tk7.go ?_ | refine tk8.go ?_ | refine tk10.go ?_ | refine tk11.go ?_)
 refine wpAnyH_ready (rs := [2]) Z2s0 (by simp) (ac2 (fun K hK => ?_) (AllReadyH.nil))
 focus go_simp
 focus (refine (sp.out _).mono ?_; rintro e w1 ⟨rfl, rfl⟩)
 focus try simp only []
 refine hK.out _ _ ?_ (fun hHeld => ?_)
 ·exact Z2s1
 focus (clear hK K; refine Zp2s ?_)
 refine wpAnyH_ready (rs := [5]) Z2s0 (by simp) (ac5 (fun K hK => ?_) (AllReadyH.nil))
 focus go_simp
 focus (refine (ss.out _).mono ?_; rintro e w1 ⟨rfl, rfl⟩)
 focus try simp only []
 refine hK.out _ _ ?_ (fun hHeld => ?_)
 ·exact Z2s1
 focus (clear hK K; refine Zp2s ?_)
 refine wpAnyH_ready (rs := [6]) Z2s0 (by simp) (ac6 (fun K hK => ?_) (AllReadyH.nil))
 focus go_simp
 focus (refine (G1.out _).mono ?_; rintro e w1 ⟨rfl, n1, rfl⟩)
 focus try simp only []
 refine hK.out _ _ ?_ (fun hHeld => ?_)
 ·exact Z2s1
 focus (clear hK K; refine Zp2s ?_)
 refine wpAnyH_ready (rs := [9]) Z2s0 (by simp) (ac9 (fun K hK => ?_) (AllReadyH.nil))
 focus go_simp
 focus (refine (sr.out _).mono ?_; rintro e w1 ⟨rfl, rfl⟩)
 focus try simp only []
 refine hK.out _ _ ?_ (fun hHeld => ?_)
 ·exact Z2s1
 focus (clear hK K; refine Zp2s ?_)
 refine wpAnyH_ready (rs := [12]) Z2s0 (by simp) (ac12 (fun K hK => ?_) (AllReadyH.nil))
 focus go_simp
 focus (refine (sq.out _).mono ?_; rintro e w1 ⟨rfl, rfl⟩)
 focus try simp only []
 refine hK.out _ _ ?_ (fun hHeld => ?_)
 ·exact Z2s1
 focus (clear hK K; refine Zp2s ?_)
 refine wpAnyH_ready (rs := [13]) Z2s0 (by simp) (ac13 (fun K hK => ?_) (AllReadyH.nil))
 focus go_simp
 focus (refine (G2.out _).mono ?_; rintro e w1 ⟨rfl, n2, rfl⟩)
 focus try simp only []
 refine hK.out _ _ ?_ (fun hHeld => ?_)
 ·exact Z2s1
 focus (clear hK K; refine Zp2s ?_)
 iterate 2 (first | refine tk14.go ?_ | refine tk15.go ?_)
 refine wpAnyH_done Z2s0 ?_ _; rotate_left 1
 go_upto_region 2 with (fail)
 refine wp_region_held_drew (S := (fun w' => w'.cell? ⟨ba, 0, none⟩ = some (.int .i64 p) ∧ w'.cell? ⟨ba, 1, none⟩ = some (.int .i64 q) ∧ w'.cell? ⟨bb, 0, none⟩ = some (.int .i64 r) ∧ w'.cell? ⟨bb, 1, none⟩ = some (.int .i64 s))) Z2s0 ?_ (fun hHeld => ?_)
 ·exact Z2s1
 iterate 6 (first | refine tk0.go ?_ | refine tk1.go ?_ | refine tk3.go ?_ | refine tk5.go ?_ | refine tk6.go ?_ | refine tk8.go ?_)
 refine wpAnyH_ready (rs := [2]) Z2s0 (by simp) (ac2 (fun K hK => ?_) (AllReadyH.nil))
 focus go_simp
 focus (refine (sp.out _).mono ?_; rintro e w1 ⟨rfl, rfl⟩)
 focus try simp only []
 refine hK.out _ _ ?_ (fun hHeld => ?_)
 ·exact Z2s1
 focus (clear hK K; refine Zp2s ?_)
 refine tk4.go ?_
 refine wpAnyH_ready (rs := [7]) Z2s0 (by simp) (ac7 (fun K hK => ?_) (AllReadyH.nil))
 focus go_simp
 focus (refine (sr.out _).mono ?_; rintro e w1 ⟨rfl, rfl⟩)
 focus try simp only []
 refine hK.out _ _ ?_ (fun hHeld => ?_)
 ·exact Z2s1
 focus (clear hK K; refine Zp2s ?_)
 refine tk9.go ?_
 refine wpAnyH_ready (rs := [10]) Z2s0 (by simp) (ac10 (fun K hK => ?_) (AllReadyH.nil))
 focus go_simp
 focus (refine (MU.out _).mono ?_; rintro e w1 ⟨rfl, rfl⟩)
 focus try simp only []
 refine hK.out _ _ ?_ (fun hHeld => ?_)
 ·exact Z2s1
 focus (clear hK K; refine Zp2s ?_)
 iterate 5 (first | refine tk11.go ?_ | refine tk12.go ?_ | refine tk13.go ?_ | refine tk14.go ?_ | refine tk15.go ?_)
 refine wpAnyH_done Z2s0 ?_ _; rotate_left 1
 go_upto_region 3 with (fail)
 refine wp_region_held_drew (S := (fun w' => w'.cell? ⟨ba, 0, none⟩ = some (.int .i64 p) ∧ w'.cell? ⟨ba, 1, none⟩ = some (.int .i64 q) ∧ w'.cell? ⟨bb, 0, none⟩ = some (.int .i64 r) ∧ w'.cell? ⟨bb, 1, none⟩ = some (.int .i64 s))) Z2s0 ?_ (fun hHeld => ?_)
 ·exact Z2s1
 iterate 20 (first | refine tk0.go ?_ | refine tk1.go ?_ | refine tk2.go ?_ | refine tk3.go ?_ | refine tk4.go ?_ | refine tk5.go ?_ | refine tk6.go ?_ | refine tk7.go ?_ | refine tk8.go ?_ | refine tk9.go ?_ | refine tk10.go ?_ | refine tk11.go ?_ | refine tk12.go ?_ | refine tk13.go ?_ | refine tk14.go ?_ | refine tk15.go ?_ | refine tk16.go ?_ | refine tk17.go ?_ | refine tk18.go ?_ | refine tk19.go ?_)
 refine wpAnyH_ready (rs := [20]) Z2s0 (by simp) (ac20 (fun K hK => ?_) (AllReadyH.nil))
 focus go_simp
 focus (refine (PR.out _).mono ?_; rintro e w1 ⟨rfl, rfl⟩)
 focus try simp only []
 refine hK.out _ _ ?_ (fun hHeld => ?_)
 ·exact Z2s1
 focus (clear hK K; refine Zp2s ?_)
 refine wpAnyH_ready (rs := [21]) Z2s0 (by simp) (ac21 (fun K hK => ?_) (AllReadyH.nil))
 focus go_simp
 ·(refine (RR.out _).mono ?_; rintro e w5 ⟨rfl, hb5⟩; exact ⟨rfl, rfl, by refine Below.trans ?_ (hb5.mono Z2s2); exact Z2s3⟩)
end Go.Proofs.YtbpjnkeilhfajaaGreat.Num
end

section
/- The closure of num's Over. -/
namespace Go.Proofs
theorem Zp2v {p q : Prop} (hq : q) (h : p = q := by first | (simp only [Act.put, List.setIfInBounds_toArray, List.set_cons_zero, List.set_cons_succ]; done) | (simp only [Act.put, List.setIfInBounds_toArray, List.set_cons_zero, List.set_cons_succ]; rfl) | rfl) : p := Eq.mpr h hq
theorem Z2v0 {p : Prop} (h : p := by kernel_rfl) : p := h
theorem Z2v4 {p : Prop} (h : p := by repeat (first | exact Below.refl _ _ | with_reducible assumption | refine Below.alloc ?_ (by first | exact Nat.le_refl _ | (simp; done) | (simp; omega) | omega) _ | refine Below.setCell ?_ (by first | exact Nat.le_refl _ | (simp; done) | (simp; omega) | omega) _ | refine Below.drew ?_ | refine bdrewN ?_ _)) : p := h
theorem Z2v1 {p : Prop} (h : p := by exact ⟨keepcell (W := w) Z2v4 ca, keepcell (W := w) Z2v4 ca1, keepcell (W := w) Z2v4 cb, keepcell (W := w) Z2v4 cb1⟩) : p := h
theorem Z2v2 {p : Prop} (h : p := by first | exact Nat.le_refl _ | (simp; done) | (simp; omega) | omega) : p := h
theorem Z2v5 {p : Prop} (h : p := by first | exact Nat.le_refl _ | (simp; done) | (simp; omega) | omega) : p := h
theorem Z2v3 {p : Prop} (h : p := by repeat (first | exact Below.refl _ _ | with_reducible assumption | refine Below.alloc ?_ Z2v5 _ | refine Below.setCell ?_ Z2v5 _ | refine Below.drew ?_ | refine bdrewN ?_ _)) : p := h
end Go.Proofs
namespace Go.Proofs.YtbpjnkeilhfajaaGreat.Num
open Go.RowKit
set_option linter.unusedVariables false
set_option linter.unusedSimpArgs false
theorem turned_any (r s : Int) (w : World) (hr : In64 r) (hs : In64 s) :
  Calls Tryz.prog 125 #[RV r s] w fun e w' => e = .returned (.tuple #[.bool (decide (r < 0)), .int .u64 (sz s), .int .u64 (sz r)]) ∧ ∃ n, w' = (w.alloc (.cells #[.int .i64 r, .int .i64 s] 28)).drewN n := by
 have sr := Lib.hid (fun W0 => size_any r W0 hr.1 hr.2)
 have ss := Lib.hid (fun W0 => size_any s W0 hs.1 hs.2)
 clear hr hs
 go_enter Tryz.func125, Tryz.ntmps125
 go_wp2
 refine wp_region_held_drew (S := (fun w' => w'.cell? ⟨w.heap.size, 0, none⟩ = some (.int .i64 r) ∧ w'.cell? ⟨w.heap.size, 1, none⟩ = some (.int .i64 s))) Z2v0 ?_ (fun hHeld => ?_)
 ·(simp [go_sem]; done)
 iterate 7 (first | refine tk0.go ?_ | refine tk1.go ?_ | refine tk2.go ?_ | refine tk3.go ?_ | refine tk4.go ?_ | refine tk6.go ?_ | refine tk7.go ?_)
 refine wpAnyH_ready (rs := [5]) Z2v0 (by simp) (ac5 (fun K hK => ?_) (AllReadyH.nil))
 focus go_simp
 focus (refine (ss.out _).mono ?_; rintro e w1 ⟨rfl, rfl⟩)
 focus try simp only []
 refine hK.out _ _ ?_ (fun hHeld => ?_)
 ·(simp [go_sem]; done)
 focus (clear hK K; refine Zp2v ?_)
 refine wpAnyH_ready (rs := [8]) Z2v0 (by simp) (ac8 (fun K hK => ?_) (AllReadyH.nil))
 focus go_simp
 focus (refine (sr.out _).mono ?_; rintro e w1 ⟨rfl, rfl⟩)
 focus try simp only []
 refine hK.out _ _ ?_ (fun hHeld => ?_)
 ·(simp [go_sem]; done)
 focus (clear hK K; refine Zp2v ?_)
 iterate 3 (first | refine tk9.go ?_ | refine tk10.go ?_ | refine tk11.go ?_)
 refine wpAnyH_done Z2v0 ?_ _; rotate_left 1
 go_wp2
 go_ret3
 exact ⟨rfl, 1, rfl⟩
set_option maxHeartbeats 4000000 in
theorem over1_ok (p q r s g h pg sh qh rg X : Int) (ba bb : Nat) (w : World) (hp : In64 p) (hq : In64 q) (hr : In64 r) (hs : In64 s) (q0 : 0 < q) (s0 : 0 < s) (r0 : r ≠ 0)
  (ca : w.cell? ⟨ba, 0, none⟩ = some (.int .i64 p)) (ca1 : w.cell? ⟨ba, 1, none⟩ = some (.int .i64 q)) (cb : w.cell? ⟨bb, 0, none⟩ = some (.int .i64 r)) (cb1 : w.cell? ⟨bb, 1, none⟩ = some (.int .i64 s))
  (hg : (Int.gcd p r : Int) = g) (hh : (Int.gcd s q : Int) = h) (hpg : sz p / g = pg) (hsh : s / h = sh) (hqh : q / h = qh) (hrg : sz r / g = rg)
  (hX : (if sg p r = true then -(pg * sh) else pg * sh) = X) (hfit : In64 X ∧ In64 (qh * rg)) :
  Calls Tryz.prog 124 #[.pointer (some ⟨bb, 0, none⟩), .pointer (some ⟨ba, 0, none⟩)] w fun e w' => e = .returned (RV X (qh * rg)) ∧ Below w.heap.size w w' := by
 have sp := Lib.hid (fun W0 => size_any p W0 hp.1 hp.2)
 have sq := Lib.hid (fun W0 => size_any q W0 hq.1 hq.2)
 have tu := Lib.hid (fun W0 => turned_any r s W0 hr hs)
 have zq : sz q = q := by unfold sz; rw [if_neg (by omega)]
 have zs : sz s = s := by unfold sz; rw [if_neg (by omega)]
 have zr : 0 < sz r := by unfold sz; split <;> omega
 rw [zq] at sq
 rw [zs] at tu
 have a1 := sz_nonneg p
 have a2 := sz_le hp.1 hp.2
 have b1 := sz_nonneg r
 have b2 := sz_le hr.1 hr.2
 have qlt := hq.2
 have slt := hs.2
 have G1 := Lib.hid (fun W0 => gcd_any (sz p) (sz r) W0 a1 (by omega) (by omega) (by omega))
 have G2 := Lib.hid (fun W0 => gcd_any s q W0 (by omega) (by omega) (by omega) (by omega))
 rw [gcd_sz p r, hg] at G1
 rw [hh] at G2
 have g0 : 0 < g := by rw [← hg]; exact gcd_pos r0
 have h0 : 0 < h := by rw [← hh]; exact gcd_pos (by omega)
 have gn : ¬ g = 0 := by omega
 have hn : ¬ h = 0 := by omega
 have e1 : IntKind.u64.wrap ((sz p).tdiv g) = pg := by rw [div_spell a1 (by omega) g0, hpg]
 have e2 : IntKind.u64.wrap ((sz r).tdiv g) = rg := by rw [div_spell b1 (by omega) g0, hrg]
 have e3 : IntKind.u64.wrap (s.tdiv h) = sh := by rw [div_spell (by omega) (by omega) h0, hsh]
 have e4 : IntKind.u64.wrap (q.tdiv h) = qh := by rw [div_spell (by omega) (by omega) h0, hqh]
 have bp := ediv_bound a1 a2 g0
 have br := ediv_bound b1 b2 g0
 rw [hpg] at bp
 rw [hrg] at br
 have bq := ediv_bound (a := q) (m := 9223372036854775808) (by omega) (by omega) h0
 have bs := ediv_bound (a := s) (m := 9223372036854775808) (by omega) (by omega) h0
 rw [hqh] at bq
 rw [hsh] at bs
 have M1 := Lib.hid (fun W0 => mul64_any pg sh W0 bp.1 (by omega) bs.1 (by omega))
 have M2 := Lib.hid (fun W0 => mul64_any qh rg W0 bq.1 (by omega) br.1 (by omega))
 have RR := Lib.hid (fun W0 => rat_ok (hX ▸ wv_sizes (sg p r) bp.1 bp.2 bs.1 bs.2) (wv_sizes false bq.1 bq.2 br.1 br.2) hfit.1 hfit.2 W0)
 have hsgn := sg_spell p r
 have hz : w.heap.size < w.heap.size + 1 := by omega
 have la := cell_lt ca
 have lb := cell_lt cb
 have lb1 : bb < w.heap.size + 1 := by omega
 clear hp hq hr hs q0 s0 r0 hg hh hpg hsh hqh hrg hfit hX zq zs zr a1 a2 b1 b2 qlt slt g0 h0 bp br bq bs
 generalize pg * sh / 18446744073709551616 = hi at *
 generalize pg * sh % 18446744073709551616 = lo at *
 generalize qh * rg / 18446744073709551616 = un at *
 generalize qh * rg % 18446744073709551616 = ls at *
 go_enter Tryz.func124, Tryz.ntmps124
 go_wp2_with fail
 refine (tu.out _).mono ?_
 rintro e w1 ⟨rfl, n0, rfl⟩
 go_upto_region 2 with (fail)
 refine wp_region_held_drew (S := (fun w' => w'.cell? ⟨ba, 0, none⟩ = some (.int .i64 p) ∧ w'.cell? ⟨ba, 1, none⟩ = some (.int .i64 q) ∧ w'.cell? ⟨bb, 0, none⟩ = some (.int .i64 r) ∧ w'.cell? ⟨bb, 1, none⟩ = some (.int .i64 s))) Z2v0 ?_ (fun hHeld => ?_)
 ·exact Z2v1
 iterate 6 (first | refine tk0.go ?_ | refine tk1.go ?_ | refine tk3.go ?_ | refine tk5.go ?_ | refine tk6.go ?_ | refine tk7.go ?_)
 refine wpAnyH_ready (rs := [2]) Z2v0 (by simp) (ac2 (fun K hK => ?_) (AllReadyH.nil))
 focus go_simp
 focus (refine (sp.out _).mono ?_; rintro e w1 ⟨rfl, rfl⟩)
 focus try simp only []
 refine hK.out _ _ ?_ (fun hHeld => ?_)
 ·exact Z2v1
 focus (clear hK K; refine Zp2v ?_)
 refine wpAnyH_ready (rs := [4]) Z2v0 (by simp) (ac4 (fun K hK => ?_) (AllReadyH.nil))
 focus go_simp
 focus (refine (G1.out _).mono ?_; rintro e w1 ⟨rfl, n1, rfl⟩)
 focus try simp only []
 refine hK.out _ _ ?_ (fun hHeld => ?_)
 ·exact Z2v1
 focus (clear hK K; refine Zp2v ?_)
 refine wpAnyH_ready (rs := [8]) Z2v0 (by simp) (ac8 (fun K hK => ?_) (AllReadyH.nil))
 focus go_simp
 focus (refine (sq.out _).mono ?_; rintro e w1 ⟨rfl, rfl⟩)
 focus try simp only []
 refine hK.out _ _ ?_ (fun hHeld => ?_)
 ·exact Z2v1
 focus (clear hK K; refine Zp2v ?_)
 refine wpAnyH_ready (rs := [9]) Z2v0 (by simp) (ac9 (fun K hK => ?_) (AllReadyH.nil))
 focus go_simp
 focus (refine (G2.out _).mono ?_; rintro e w1 ⟨rfl, n2, rfl⟩)
 focus try simp only []
 refine hK.out _ _ ?_ (fun hHeld => ?_)
 ·exact Z2v1
 focus (clear hK K; refine Zp2v ?_)
 iterate 2 (first | refine tk10.go ?_ | refine tk11.go ?_)
 refine wpAnyH_done Z2v0 ?_ _; rotate_left 1
 go_upto_region 3 with (fail)
 refine wp_region_held_drew (S := (fun w' => w'.cell? ⟨ba, 0, none⟩ = some (.int .i64 p) ∧ w'.cell? ⟨ba, 1, none⟩ = some (.int .i64 q) ∧ w'.cell? ⟨bb, 0, none⟩ = some (.int .i64 r) ∧ w'.cell? ⟨bb, 1, none⟩ = some (.int .i64 s))) Z2v0 ?_ (fun hHeld => ?_)
 ·exact Z2v1
 iterate 6 (first | refine tk0.go ?_ | refine tk1.go ?_ | refine tk3.go ?_ | refine tk5.go ?_ | refine tk6.go ?_ | refine tk7.go ?_)
 refine wpAnyH_ready (rs := [2]) Z2v0 (by simp) (ac2 (fun K hK => ?_) (AllReadyH.nil))
 focus go_simp
 focus (refine (sp.out _).mono ?_; rintro e w1 ⟨rfl, rfl⟩)
 focus try simp only []
 refine hK.out _ _ ?_ (fun hHeld => ?_)
 ·exact Z2v1
 focus (clear hK K; refine Zp2v ?_)
 refine tk4.go ?_
 refine wpAnyH_ready (rs := [8]) Z2v0 (by simp) (ac8 (fun K hK => ?_) (AllReadyH.nil))
 focus go_simp
 focus (refine (M1.out _).mono ?_; rintro e w1 ⟨rfl, rfl⟩)
 focus try simp only []
 refine hK.out _ _ ?_ (fun hHeld => ?_)
 ·exact Z2v1
 focus (clear hK K; refine Zp2v ?_)
 iterate 5 (first | refine tk9.go ?_ | refine tk10.go ?_ | refine tk11.go ?_ | refine tk12.go ?_ | refine tk13.go ?_)
 refine wpAnyH_done Z2v0 ?_ _; rotate_left 1
 go_upto_region 4 with (fail)
 refine wp_region_held_drew (S := (fun w' => w'.cell? ⟨ba, 0, none⟩ = some (.int .i64 p) ∧ w'.cell? ⟨ba, 1, none⟩ = some (.int .i64 q) ∧ w'.cell? ⟨bb, 0, none⟩ = some (.int .i64 r) ∧ w'.cell? ⟨bb, 1, none⟩ = some (.int .i64 s))) Z2v0 ?_ (fun hHeld => ?_)
 ·exact Z2v1
 iterate 6 (first | refine tk0.go ?_ | refine tk1.go ?_ | refine tk3.go ?_ | refine tk5.go ?_ | refine tk6.go ?_ | refine tk7.go ?_)
 refine wpAnyH_ready (rs := [2]) Z2v0 (by simp) (ac2 (fun K hK => ?_) (AllReadyH.nil))
 focus go_simp
 focus (refine (sq.out _).mono ?_; rintro e w1 ⟨rfl, rfl⟩)
 focus try simp only []
 refine hK.out _ _ ?_ (fun hHeld => ?_)
 ·exact Z2v1
 focus (clear hK K; refine Zp2v ?_)
 refine tk4.go ?_
 refine wpAnyH_ready (rs := [8]) Z2v0 (by simp) (ac8 (fun K hK => ?_) (AllReadyH.nil))
 focus go_simp
 focus (refine (M2.out _).mono ?_; rintro e w1 ⟨rfl, rfl⟩)
 focus try simp only []
 refine hK.out _ _ ?_ (fun hHeld => ?_)
 ·exact Z2v1
 focus (clear hK K; refine Zp2v ?_)
 iterate 5 (first | refine tk9.go ?_ | refine tk10.go ?_ | refine tk11.go ?_ | refine tk12.go ?_ | refine tk13.go ?_)
 refine wpAnyH_done Z2v0 ?_ _; rotate_left 1
 go_wp2_with fail
 refine (RR.out _).mono ?_
 rintro e w5 ⟨rfl, hb5⟩
 have K0 : w5.cell? ⟨w.heap.size, 0, none⟩ = some (.int .i64 0) := keepcell hb5 (by simp [go_sem, hz]; done)
 have K1 : w5.cell? ⟨w.heap.size, 1, none⟩ = some (.int .i64 0) := keepcell hb5 (by simp [go_sem, hz]; done)
 have F0 : w5.frozen? ⟨w.heap.size, 0, none⟩ = false := (hb5.frozen (p := ⟨w.heap.size, 0, none⟩) Z2v2).trans (by simp [go_sem, hz]; done)
 have F1 : w5.frozen? ⟨w.heap.size, 1, none⟩ = false := (hb5.frozen (p := ⟨w.heap.size, 1, none⟩) Z2v2).trans (by simp [go_sem, hz]; done)
 go_wp2
 have hbw : Below w.heap.size w w5 := by refine Below.trans ?_ (hb5.mono Z2v2); exact Z2v3
 exact bodyPost_ret (v := RV X (qh * rg)) (by simp [results, Tryz.results124, go_sem, K0, K1]) rfl ⟨rfl, Z2v3⟩
set_option maxHeartbeats 4000000 in
theorem over1_no (p q r s g h pg sh qh rg X : Int) (ba bb : Nat) (w : World) (hp : In64 p) (hq : In64 q) (hr : In64 r) (hs : In64 s) (q0 : 0 < q) (s0 : 0 < s) (r0 : r ≠ 0)
  (ca : w.cell? ⟨ba, 0, none⟩ = some (.int .i64 p)) (ca1 : w.cell? ⟨ba, 1, none⟩ = some (.int .i64 q)) (cb : w.cell? ⟨bb, 0, none⟩ = some (.int .i64 r)) (cb1 : w.cell? ⟨bb, 1, none⟩ = some (.int .i64 s))
  (hg : (Int.gcd p r : Int) = g) (hh : (Int.gcd s q : Int) = h) (hpg : sz p / g = pg) (hsh : s / h = sh) (hqh : q / h = qh) (hrg : sz r / g = rg)
  (hX : (if sg p r = true then -(pg * sh) else pg * sh) = X) (hfit : ¬ (In64 X ∧ In64 (qh * rg))) :
  Calls Tryz.prog 124 #[.pointer (some ⟨bb, 0, none⟩), .pointer (some ⟨ba, 0, none⟩)] w fun e w' => e = .panicked LargeP ∧ Below w.heap.size w w' := by
 have sp := Lib.hid (fun W0 => size_any p W0 hp.1 hp.2)
 have sq := Lib.hid (fun W0 => size_any q W0 hq.1 hq.2)
 have tu := Lib.hid (fun W0 => turned_any r s W0 hr hs)
 have zq : sz q = q := by unfold sz; rw [if_neg (by omega)]
 have zs : sz s = s := by unfold sz; rw [if_neg (by omega)]
 have zr : 0 < sz r := by unfold sz; split <;> omega
 rw [zq] at sq
 rw [zs] at tu
 have a1 := sz_nonneg p
 have a2 := sz_le hp.1 hp.2
 have b1 := sz_nonneg r
 have b2 := sz_le hr.1 hr.2
 have qlt := hq.2
 have slt := hs.2
 have G1 := Lib.hid (fun W0 => gcd_any (sz p) (sz r) W0 a1 (by omega) (by omega) (by omega))
 have G2 := Lib.hid (fun W0 => gcd_any s q W0 (by omega) (by omega) (by omega) (by omega))
 rw [gcd_sz p r, hg] at G1
 rw [hh] at G2
 have g0 : 0 < g := by rw [← hg]; exact gcd_pos r0
 have h0 : 0 < h := by rw [← hh]; exact gcd_pos (by omega)
 have gn : ¬ g = 0 := by omega
 have hn : ¬ h = 0 := by omega
 have e1 : IntKind.u64.wrap ((sz p).tdiv g) = pg := by rw [div_spell a1 (by omega) g0, hpg]
 have e2 : IntKind.u64.wrap ((sz r).tdiv g) = rg := by rw [div_spell b1 (by omega) g0, hrg]
 have e3 : IntKind.u64.wrap (s.tdiv h) = sh := by rw [div_spell (by omega) (by omega) h0, hsh]
 have e4 : IntKind.u64.wrap (q.tdiv h) = qh := by rw [div_spell (by omega) (by omega) h0, hqh]
 have bp := ediv_bound a1 a2 g0
 have br := ediv_bound b1 b2 g0
 rw [hpg] at bp
 rw [hrg] at br
 have bq := ediv_bound (a := q) (m := 9223372036854775808) (by omega) (by omega) h0
 have bs := ediv_bound (a := s) (m := 9223372036854775808) (by omega) (by omega) h0
 rw [hqh] at bq
 rw [hsh] at bs
 have M1 := Lib.hid (fun W0 => mul64_any pg sh W0 bp.1 (by omega) bs.1 (by omega))
 have M2 := Lib.hid (fun W0 => mul64_any qh rg W0 bq.1 (by omega) br.1 (by omega))
 have RR := Lib.hid (fun W0 => rat_no (hX ▸ wv_sizes (sg p r) bp.1 bp.2 bs.1 bs.2) (wv_sizes false bq.1 bq.2 br.1 br.2) hfit W0)
 have hsgn := sg_spell p r
 have hz : w.heap.size < w.heap.size + 1 := by omega
 have la := cell_lt ca
 have lb := cell_lt cb
 have lb1 : bb < w.heap.size + 1 := by omega
 clear hp hq hr hs q0 s0 r0 hg hh hpg hsh hqh hrg hfit hX zq zs zr a1 a2 b1 b2 qlt slt g0 h0 bp br bq bs
 generalize pg * sh / 18446744073709551616 = hi at *
 generalize pg * sh % 18446744073709551616 = lo at *
 generalize qh * rg / 18446744073709551616 = un at *
 generalize qh * rg % 18446744073709551616 = ls at *
 go_enter Tryz.func124, Tryz.ntmps124
 go_wp2_with fail
 refine (tu.out _).mono ?_
 rintro e w1 ⟨rfl, n0, rfl⟩
 go_upto_region 2 with (fail)
 refine wp_region_held_drew (S := (fun w' => w'.cell? ⟨ba, 0, none⟩ = some (.int .i64 p) ∧ w'.cell? ⟨ba, 1, none⟩ = some (.int .i64 q) ∧ w'.cell? ⟨bb, 0, none⟩ = some (.int .i64 r) ∧ w'.cell? ⟨bb, 1, none⟩ = some (.int .i64 s))) Z2v0 ?_ (fun hHeld => ?_)
 ·exact Z2v1
 iterate 6 (first | refine tk0.go ?_ | refine tk1.go ?_ | refine tk3.go ?_ | refine tk5.go ?_ | refine tk6.go ?_ | refine tk7.go ?_)
 refine wpAnyH_ready (rs := [2]) Z2v0 (by simp) (ac2 (fun K hK => ?_) (AllReadyH.nil))
 focus go_simp
 focus (refine (sp.out _).mono ?_; rintro e w1 ⟨rfl, rfl⟩)
 focus try simp only []
 refine hK.out _ _ ?_ (fun hHeld => ?_)
 ·exact Z2v1
 focus (clear hK K; refine Zp2v ?_)
 refine wpAnyH_ready (rs := [4]) Z2v0 (by simp) (ac4 (fun K hK => ?_) (AllReadyH.nil))
 focus go_simp
 focus (refine (G1.out _).mono ?_; rintro e w1 ⟨rfl, n1, rfl⟩)
 focus try simp only []
 refine hK.out _ _ ?_ (fun hHeld => ?_)
 ·exact Z2v1
 focus (clear hK K; refine Zp2v ?_)
 refine wpAnyH_ready (rs := [8]) Z2v0 (by simp) (ac8 (fun K hK => ?_) (AllReadyH.nil))
 focus go_simp
 focus (refine (sq.out _).mono ?_; rintro e w1 ⟨rfl, rfl⟩)
 focus try simp only []
 refine hK.out _ _ ?_ (fun hHeld => ?_)
 ·exact Z2v1
 focus (clear hK K; refine Zp2v ?_)
 refine wpAnyH_ready (rs := [9]) Z2v0 (by simp) (ac9 (fun K hK => ?_) (AllReadyH.nil))
 focus go_simp
 focus (refine (G2.out _).mono ?_; rintro e w1 ⟨rfl, n2, rfl⟩)
 focus try simp only []
 refine hK.out _ _ ?_ (fun hHeld => ?_)
 ·exact Z2v1
 focus (clear hK K; refine Zp2v ?_)
 iterate 2 (first | refine tk10.go ?_ | refine tk11.go ?_)
 refine wpAnyH_done Z2v0 ?_ _; rotate_left 1
 go_upto_region 3 with (fail)
 refine wp_region_held_drew (S := (fun w' => w'.cell? ⟨ba, 0, none⟩ = some (.int .i64 p) ∧ w'.cell? ⟨ba, 1, none⟩ = some (.int .i64 q) ∧ w'.cell? ⟨bb, 0, none⟩ = some (.int .i64 r) ∧ w'.cell? ⟨bb, 1, none⟩ = some (.int .i64 s))) Z2v0 ?_ (fun hHeld => ?_)
 ·exact Z2v1
 iterate 6 (first | refine tk0.go ?_ | refine tk1.go ?_ | refine tk3.go ?_ | refine tk5.go ?_ | refine tk6.go ?_ | refine tk7.go ?_)
 refine wpAnyH_ready (rs := [2]) Z2v0 (by simp) (ac2 (fun K hK => ?_) (AllReadyH.nil))
 focus go_simp
 focus (refine (sp.out _).mono ?_; rintro e w1 ⟨rfl, rfl⟩)
 focus try simp only []
 refine hK.out _ _ ?_ (fun hHeld => ?_)
 ·exact Z2v1
 focus (clear hK K; refine Zp2v ?_)
 refine tk4.go ?_
 refine wpAnyH_ready (rs := [8]) Z2v0 (by simp) (ac8 (fun K hK => ?_) (AllReadyH.nil))
 focus go_simp
 focus (refine (M1.out _).mono ?_; rintro e w1 ⟨rfl, rfl⟩)
 focus try simp only []
 refine hK.out _ _ ?_ (fun hHeld => ?_)
 ·exact Z2v1
 focus (clear hK K; refine Zp2v ?_)
 iterate 5 (first | refine tk9.go ?_ | refine tk10.go ?_ | refine tk11.go ?_ | refine tk12.go ?_ | refine tk13.go ?_)
 refine wpAnyH_done Z2v0 ?_ _; rotate_left 1
 go_upto_region 4 with (fail)
 refine wp_region_held_drew (S := (fun w' => w'.cell? ⟨ba, 0, none⟩ = some (.int .i64 p) ∧ w'.cell? ⟨ba, 1, none⟩ = some (.int .i64 q) ∧ w'.cell? ⟨bb, 0, none⟩ = some (.int .i64 r) ∧ w'.cell? ⟨bb, 1, none⟩ = some (.int .i64 s))) Z2v0 ?_ (fun hHeld => ?_)
 ·exact Z2v1
 iterate 6 (first | refine tk0.go ?_ | refine tk1.go ?_ | refine tk3.go ?_ | refine tk5.go ?_ | refine tk6.go ?_ | refine tk7.go ?_)
 refine wpAnyH_ready (rs := [2]) Z2v0 (by simp) (ac2 (fun K hK => ?_) (AllReadyH.nil))
 focus go_simp
 focus (refine (sq.out _).mono ?_; rintro e w1 ⟨rfl, rfl⟩)
 focus try simp only []
 refine hK.out _ _ ?_ (fun hHeld => ?_)
 ·exact Z2v1
 focus (clear hK K; refine Zp2v ?_)
 refine tk4.go ?_
 refine wpAnyH_ready (rs := [8]) Z2v0 (by simp) (ac8 (fun K hK => ?_) (AllReadyH.nil))
 focus go_simp
 focus (refine (M2.out _).mono ?_; rintro e w1 ⟨rfl, rfl⟩)
 focus try simp only []
 refine hK.out _ _ ?_ (fun hHeld => ?_)
 ·exact Z2v1
 focus (clear hK K; refine Zp2v ?_)
 iterate 5 (first | refine tk9.go ?_ | refine tk10.go ?_ | refine tk11.go ?_ | refine tk12.go ?_ | refine tk13.go ?_)
 refine wpAnyH_done Z2v0 ?_ _; rotate_left 1
 go_wp2_with fail
 refine (RR.out _).mono ?_
 rintro e w5 ⟨rfl, hb5⟩
 exact ⟨rfl, rfl, by refine Below.trans ?_ (hb5.mono Z2v2); exact Z2v3⟩
end Go.Proofs.YtbpjnkeilhfajaaGreat.Num
end
