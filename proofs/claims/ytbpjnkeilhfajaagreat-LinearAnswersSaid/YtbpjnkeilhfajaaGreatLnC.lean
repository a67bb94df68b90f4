/- linear.holds. -/
import Derived.Test.YtbpjnkeilhfajaaGreatTk
import Derived.Test.YtbpjnkeilhfajaaGreatLinT
namespace Go.Proofs
theorem Zp1e {p q : Prop} (hq : q) (h : p = q := by first | (simp only [Act.put, List.setIfInBounds_toArray, List.set_cons_zero, List.set_cons_succ]; done) | (simp only [Act.put, List.setIfInBounds_toArray, List.set_cons_zero, List.set_cons_succ]; rfl) | rfl) : p := Eq.mpr h hq
theorem Z1e0 {p : Prop} (h : p := by kernel_rfl) : p := h
theorem Z1e1 {p : Prop} (h : p := by (first | exact ⟨kcell HBW.out.drew Y0.out, kcell HBW.out.drew Y1.out, HBR.out.drew⟩ | exact hHeld)) : p := h
theorem Z1e2 {p : Prop} (h : p := by exact ⟨kcell hb2 hHeld.1, kcell hb2 hHeld.2.1, hHeld.2.2.trans (hb2.mono hHeld.2.2.size)⟩) : p := h
theorem Z1e3 {p : Prop} (h : p := by (refine (mustR_no _ _ _).mono ?_; rintro e w2 ⟨rfl, hb2⟩; exact ⟨rfl, rfl, hHeld.2.2.trans (hb2.mono hHeld.2.2.size)⟩)) : p := h
end Go.Proofs
namespace Go.Proofs.YtbpjnkeilhfajaaGreat.Ln
open Go.RowKit Go.Proofs.YtbpjnkeilhfajaaGreat.Num Go.Proofs.YtbpjnkeilhfajaaGreat.Given Go.Proofs.YtbpjnkeilhfajaaGreat.Lin Go.Proofs.YtbpjnkeilhfajaaGreatW.PrintWords
set_option linter.unusedVariables false
set_option linter.unusedSimpArgs false
theorem wrapj {j : Nat} (h : j + 1 < 9223372036854775808) : wrap64 ((j : Int) + 1) = ((j + 1 : Nat) : Int) := by unfold wrap64; omega
theorem meas_lt {j n : Nat} (h : j < n) : n - (j + 1) < n - j := by omega
theorem succ_lt {j n : Nat} (h : j < n) (k : n ≤ 9223372036854775807) : j + 1 < 9223372036854775808 := by omega
theorem whole_q (n : Int) (w : World) : Calls Tryz.prog 84 #[.int .i64 n] w fun e w' => e = .returned (rv (n : Rat)) ∧ Below w.heap.size w w' := by
 rw [rv_int]; exact Whole_any n w
def ofQ (x : Rat) : S28 := ⟨x.num, (x.den : Int)⟩
theorem sign_q (x : Rat) (w : World) : Calls Tryz.prog 88 #[rv x] w fun e w' => e = .returned (.int .i64 (sg0 x.num)) ∧ Below w.heap.size w w' := sign_any _ _ w
theorem mustq_ok (x : Rat) (w : World) : Calls Tryz.prog 85 #[rv x, .bool true] w fun e w' => e = .returned (rv x) ∧ Below w.heap.size w w' := mustR_ok _ _ w
theorem sg_le (x : Rat) : decide (sg0 x.num ≤ 0) = decide (x ≤ 0) := by
 have : x.num ≤ 0 ↔ x ≤ 0 := by rw [Rat.le_iff]; simp
 unfold sg0
 by_cases h1 : x.num < 0
 ·rw [if_pos h1]; simp [← this]; omega
 ·rw [if_neg h1]
  by_cases h2 : 0 < x.num
  ·rw [if_pos h2]; simp [← this]; omega
  ·rw [if_neg h2]; simp [← this]; omega
theorem kcell {W w1 : World} {a : Addr} {v : Value} (hb : Below W.heap.size W w1) (h : W.cell? a = some v) : w1.cell? a = some v := (hb.cell (World.block_lt_of_cell? W _ h)).trans h
theorem held_set {W w' : World} {a b : Addr} {u v x y : Value} {g : Nat} (h : w'.cell? a = some u ∧ w'.cell? b = some v ∧ Below W.heap.size W w') (ha : a.block ≠ g) (hb : b.block ≠ g) (hg : W.heap.size ≤ g) :
  ((w'.setCell ⟨g, 0, none⟩ x).setCell ⟨g, 1, none⟩ y).cell? a = some u ∧ ((w'.setCell ⟨g, 0, none⟩ x).setCell ⟨g, 1, none⟩ y).cell? b = some v ∧ Below W.heap.size W ((w'.setCell ⟨g, 0, none⟩ x).setCell ⟨g, 1, none⟩ y) :=
 ⟨by rw [World.cell?_of_block ((Below.heap_setCell _ ⟨g, 1, none⟩ y _ ha).trans (Below.heap_setCell _ ⟨g, 0, none⟩ x _ ha))]; exact h.1, by rw [World.cell?_of_block ((Below.heap_setCell _ ⟨g, 1, none⟩ y _ hb).trans (Below.heap_setCell _ ⟨g, 0, none⟩ x _ hb))]; exact h.2.1, (h.2.2.setCell hg _).setCell hg _⟩
def HoldsEnd (o : Option Rat) (e : Ending) : Prop := match o with
 | some s => e = .returned (.bool (decide (s ≤ 0)))
 | none => e = .panicked LargeL
set_option maxHeartbeats 8000000 in
set_option maxRecDepth 100000 in
theorem holds_any (l : List Int) (k : Int) (xs : List Rat) (A A' : Option Addr) (c c' : Nat) (w0 w : World) (hl : l.length = xs.length) (hC : (Kd.int .i64).C w0 A l.length l) (hc : l.length ≤ c) (hX : Kd.C k28 w0 A' (xs.map ofQ).length (xs.map ofQ)) (hc' : xs.length ≤ c') (hB : Below w0.heap.size w0 w)
  (hk : In64 k) (hin : ∀ x, x ∈ l → In64 x) (hfit : ∀ x, x ∈ xs → Fit x) :
  Calls Tryz.prog 39 #[.agg #[.slice A l.length c, .int .i64 k], .slice A' xs.length c'] w fun e w' => HoldsEnd (holdF l xs (k : Rat)) e ∧ Below w.heap.size w w' := by
 obtain ⟨r, hr⟩ : ∃ r, holdF l xs (k : Rat) = r := ⟨_, rfl⟩
 rw [hr]
 have HC := Lib.hid hC
 have HX := Lib.hid hX
 have HB := Lib.hid hB
 have HI := Lib.hid hin
 have HF := Lib.hid hfit
 have HL := Lib.hid hl
 have HR := Lib.hid hr
 have HK := Lib.hid (int_fit hk)
 clear hC hX hB hin hfit hr hk hl
 go_enter Tryz.func39, Tryz.ntmps39
 go_wp2_with fail
 refine (whole_q _ _).mono ?_
 rintro e w1 ⟨rfl, hb1⟩
 have hz1 := hb1.size
 simp at hz1
 have hlt1 : w.heap.size < w1.heap.size := by omega
 have hne1 : w.heap.size ≠ w1.heap.size := by omega
 have HB1 := Lib.hid (show Below w.heap.size w w1 from ((Below.refl _ _).alloc (Nat.le_refl _) _).trans (hb1.mono (by simp)))
 have pb := Lib.hid (blk_below (blk_new w _) hb1)
 have p0 : w1.cell? ⟨w.heap.size, 0, none⟩ = some (.slice A l.length c) := blk_cell pb.out 0
 clear hb1
 go_wp2
 have hsb := Lib.hid (blk_new w1 (.cells #[.int .i64 k, .int .i64 1] 28))
 have zs := Lib.hid (show w.heap.size < w1.heap.size by omega)
 have HB2 := Lib.hid (HB1.out.alloc HB1.out.size (.cells #[.int .i64 k, .int .i64 1] 28))
 clear p0 pb
 go_loopw [14] (fun v wr => ∃ (j : Nat) (s : Rat), j ≤ l.length ∧ v = .int .i64 j ∧ Fit s ∧ holdF (l.drop j) (xs.drop j) s = r ∧ wr.heap[w1.heap.size]? = some (.cells #[.int .i64 s.num, .int .i64 s.den] 28 (0, 0)) ∧ Below w.heap.size w wr) (fun v _ => l.length - (intOf v).toNat)
 case atStart => exact ⟨0, (k : Rat), Nat.zero_le _, rfl, HK.out, by simp only [List.drop_zero]; exact HR.out, by rw [Rat.num_intCast, Rat.den_intCast]; exact hsb.out, HB2.out⟩
 case round =>
  obtain ⟨j, s, hj, rfl, hs, hL, hP, hbr⟩ := hrel
  by_cases hjl : j < l.length
  ·have hmax := Kd.C_max HC.out
   have hjx : j < xs.length := by rw [← HL.out]; exact hjl
   obtain ⟨ad, e, x0⟩ := el_I HC.out hjl
   obtain ⟨aq, e', y0, y1⟩ := el_Q HX.out (show j < (xs.map ofQ).length by rw [List.length_map]; exact hjx)
   rw [List.getElem_map] at y0 y1
   have hbw : Below w0.heap.size w0 wr := HB.out.trans (hbr.mono HB.out.size)
   rw [List.drop_eq_getElem_cons hjl, List.drop_eq_getElem_cons hjx, holdF] at hL
   have hci := HI.out _ (List.getElem_mem hjl)
   have hxf := HF.out _ (List.getElem_mem hjx)
   generalize l[j] = cj at *
   generalize xs[j] = xj at *
   have x0' := (hbw.cell (World.block_lt_of_cell? w0 _ x0)).trans x0
   have lx := World.block_lt_of_cell? w0 _ x0
   have ly0 := World.block_lt_of_cell? w0 _ y0
   have ly1 := World.block_lt_of_cell? w0 _ y1
   subst e
   subst e'
   have EW := Lib.hid (wrapj (succ_lt hjl hmax))
   have HP := Lib.hid hP
   have s0 : wr.cell? ⟨w1.heap.size, 0, none⟩ = some (.int .i64 s.num) := blk_cell hP 0
   have s1 : wr.cell? ⟨w1.heap.size, 1, none⟩ = some (.int .i64 s.den) := blk_cell hP 1
   have HBR := Lib.hid hbr
   have HBW := Lib.hid hbw
   have Y0 := Lib.hid y0
   have Y1 := Lib.hid y1
   have nq : (aq.add (j * 2)).block ≠ w1.heap.size := by have zw := HB.out.size; omega
   have nw : w.heap.size ≤ w1.heap.size := by omega
   clear hP hbr hbw y0 y1 x0 hmax lx ly0 ly1
   by_cases h1 : Fit ((cj : Rat) * xj)
   ·rw [okQ_fit h1, Option.bind_some] at hL
    by_cases h2 : Fit (s + (cj : Rat) * xj)
    ·rw [okQ_fit h2, Option.bind_some] at hL
     have HL := Lib.hid hL
     clear hL
     go_wp2_with fail
     refine wp_region_held_drew (S := (fun w' => w'.cell? (aq.add (j * 2)) = some (.int .i64 xj.num) ∧ w'.cell? ⟨(aq.add (j * 2)).block, (aq.add (j * 2)).off + 1, none⟩ = some (.int .i64 xj.den) ∧ Below w.heap.size w w')) Z1e0 ?_ (fun hHeld => ?_)
     ·exact Z1e1
     iterate 5 (first | refine tk1.go ?_ | refine tk3.go ?_ | refine tk4.go ?_ | refine tk5.go ?_ | refine tk6.go ?_)
     refine wpAnyH_ready (rs := [0, 2]) Z1e0 (by simp) (ac0 (fun K hK => ?_) (ac2 (fun K hK => ?_) (AllReadyH.nil)))
     focus go_simp
     refine hK.out _ _ ?_ (fun hHeld => ?_)
     ·exact Z1e1
     focus (clear hK K; refine Zp1e ?_)
     refine wpAnyH_ready (rs := [2]) Z1e0 (by simp) (ac2 (fun K hK => ?_) (AllReadyH.nil))
     focus go_simp
     focus (refine (whole_q _ _).mono ?_; rintro e w2 ⟨rfl, hb2⟩; have HP := Lib.hid ((hb2.block _ (blk_lt HP.out)).trans HP.out); have s0 : w2.cell? ⟨w1.heap.size, 0, none⟩ = some (.int .i64 s.num) := blk_cell HP.out 0; have s1 : w2.cell? ⟨w1.heap.size, 1, none⟩ = some (.int .i64 s.den) := blk_cell HP.out 1; have sf0 := blk_frozen HP.out 0; have sf1 := blk_frozen HP.out 1)
     focus try simp only []
     refine hK.out _ _ ?_ (fun hHeld => ?_)
     ·exact Z1e2
     focus (clear hK K; refine Zp1e ?_)
     refine wpAnyH_ready (rs := [7]) Z1e0 (by simp) (ac7 (fun K hK => ?_) (AllReadyH.nil))
     focus go_simp
     focus (refine (times_ok (int_fit hci) hxf h1 _).mono ?_; rintro e w2 ⟨rfl, hb2⟩; have HP := Lib.hid ((hb2.block _ (blk_lt HP.out)).trans HP.out); have s0 : w2.cell? ⟨w1.heap.size, 0, none⟩ = some (.int .i64 s.num) := blk_cell HP.out 0; have s1 : w2.cell? ⟨w1.heap.size, 1, none⟩ = some (.int .i64 s.den) := blk_cell HP.out 1; have sf0 := blk_frozen HP.out 0; have sf1 := blk_frozen HP.out 1)
     focus try simp only []
     refine hK.out _ _ ?_ (fun hHeld => ?_)
     ·exact Z1e2
     focus (clear hK K; refine Zp1e ?_)
     iterate 2 (first | refine tk8.go ?_ | refine tk9.go ?_)
     refine wpAnyH_ready (rs := [10]) Z1e0 (by simp) (ac10 (fun K hK => ?_) (AllReadyH.nil))
     focus go_simp
     focus (refine (mustq_ok _ _).mono ?_; rintro e w2 ⟨rfl, hb2⟩; have HP := Lib.hid ((hb2.block _ (blk_lt HP.out)).trans HP.out); have s0 : w2.cell? ⟨w1.heap.size, 0, none⟩ = some (.int .i64 s.num) := blk_cell HP.out 0; have s1 : w2.cell? ⟨w1.heap.size, 1, none⟩ = some (.int .i64 s.den) := blk_cell HP.out 1; have sf0 := blk_frozen HP.out 0; have sf1 := blk_frozen HP.out 1)
     focus try simp only []
     refine hK.out _ _ ?_ (fun hHeld => ?_)
     ·exact Z1e2
     focus (clear hK K; refine Zp1e ?_)
     refine wpAnyH_ready (rs := [11]) Z1e0 (by simp) (ac11 (fun K hK => ?_) (AllReadyH.nil))
     focus go_simp
     focus (refine (plus_ok hs h1 h2 _).mono ?_; rintro e w2 ⟨rfl, hb2⟩; have HP := Lib.hid ((hb2.block _ (blk_lt HP.out)).trans HP.out); have s0 : w2.cell? ⟨w1.heap.size, 0, none⟩ = some (.int .i64 s.num) := blk_cell HP.out 0; have s1 : w2.cell? ⟨w1.heap.size, 1, none⟩ = some (.int .i64 s.den) := blk_cell HP.out 1; have sf0 := blk_frozen HP.out 0; have sf1 := blk_frozen HP.out 1)
     focus try simp only []
     refine hK.out _ _ ?_ (fun hHeld => ?_)
     ·exact Z1e2
     focus (clear hK K; refine Zp1e ?_)
     iterate 2 (first | refine tk12.go ?_ | refine tk13.go ?_)
     refine wpAnyH_ready (rs := [14]) Z1e0 (by simp) (ac14 (fun K hK => ?_) (AllReadyH.nil))
     focus go_simp
     focus (refine (mustq_ok _ _).mono ?_; rintro e w2 ⟨rfl, hb2⟩; have HP := Lib.hid ((hb2.block _ (blk_lt HP.out)).trans HP.out); have s0 : w2.cell? ⟨w1.heap.size, 0, none⟩ = some (.int .i64 s.num) := blk_cell HP.out 0; have s1 : w2.cell? ⟨w1.heap.size, 1, none⟩ = some (.int .i64 s.den) := blk_cell HP.out 1; have sf0 := blk_frozen HP.out 0; have sf1 := blk_frozen HP.out 1)
     focus try simp only []
     refine hK.out _ _ ?_ (fun hHeld => ?_)
     ·exact Z1e2
     focus (clear hK K; refine Zp1e ?_)
     refine wpAnyH_ready (rs := [15]) Z1e0 (by simp) (ac15 (fun K hK => ?_) (AllReadyH.nil))
     focus go_simp
     refine hK.out _ _ ?_ (fun hHeld => ?_)
     ·(exact held_set hHeld nq nq nw)
     focus (clear hK K; refine Zp1e ?_)
     refine wpAnyH_done Z1e0 ?_ _; rotate_left 1
     focus go_simp
     focus (refine (whole_q _ _).mono ?_; rintro e w2 ⟨rfl, hb2⟩; have HP := Lib.hid ((hb2.block _ (blk_lt HP.out)).trans HP.out); have s0 : w2.cell? ⟨w1.heap.size, 0, none⟩ = some (.int .i64 s.num) := blk_cell HP.out 0; have s1 : w2.cell? ⟨w1.heap.size, 1, none⟩ = some (.int .i64 s.den) := blk_cell HP.out 1; have sf0 := blk_frozen HP.out 0; have sf1 := blk_frozen HP.out 1)
     focus try simp only []
     refine hK.out _ _ ?_ (fun hHeld => ?_)
     ·exact Z1e2
     focus (clear hK K; refine Zp1e ?_)
     refine wpAnyH_ready (rs := [0, 7]) Z1e0 (by simp) (ac0 (fun K hK => ?_) (ac7 (fun K hK => ?_) (AllReadyH.nil)))
     focus go_simp
     refine hK.out _ _ ?_ (fun hHeld => ?_)
     ·exact Z1e1
     focus (clear hK K; refine Zp1e ?_)
     refine wpAnyH_ready (rs := [7]) Z1e0 (by simp) (ac7 (fun K hK => ?_) (AllReadyH.nil))
     focus go_simp
     focus (refine (times_ok (int_fit hci) hxf h1 _).mono ?_; rintro e w2 ⟨rfl, hb2⟩; have HP := Lib.hid ((hb2.block _ (blk_lt HP.out)).trans HP.out); have s0 : w2.cell? ⟨w1.heap.size, 0, none⟩ = some (.int .i64 s.num) := blk_cell HP.out 0; have s1 : w2.cell? ⟨w1.heap.size, 1, none⟩ = some (.int .i64 s.den) := blk_cell HP.out 1; have sf0 := blk_frozen HP.out 0; have sf1 := blk_frozen HP.out 1)
     focus try simp only []
     refine hK.out _ _ ?_ (fun hHeld => ?_)
     ·exact Z1e2
     focus (clear hK K; refine Zp1e ?_)
     iterate 2 (first | refine tk8.go ?_ | refine tk9.go ?_)
     refine wpAnyH_ready (rs := [10]) Z1e0 (by simp) (ac10 (fun K hK => ?_) (AllReadyH.nil))
     focus go_simp
     focus (refine (mustq_ok _ _).mono ?_; rintro e w2 ⟨rfl, hb2⟩; have HP := Lib.hid ((hb2.block _ (blk_lt HP.out)).trans HP.out); have s0 : w2.cell? ⟨w1.heap.size, 0, none⟩ = some (.int .i64 s.num) := blk_cell HP.out 0; have s1 : w2.cell? ⟨w1.heap.size, 1, none⟩ = some (.int .i64 s.den) := blk_cell HP.out 1; have sf0 := blk_frozen HP.out 0; have sf1 := blk_frozen HP.out 1)
     focus try simp only []
     refine hK.out _ _ ?_ (fun hHeld => ?_)
     ·exact Z1e2
     focus (clear hK K; refine Zp1e ?_)
     refine wpAnyH_ready (rs := [11]) Z1e0 (by simp) (ac11 (fun K hK => ?_) (AllReadyH.nil))
     focus go_simp
     focus (refine (plus_ok hs h1 h2 _).mono ?_; rintro e w2 ⟨rfl, hb2⟩; have HP := Lib.hid ((hb2.block _ (blk_lt HP.out)).trans HP.out); have s0 : w2.cell? ⟨w1.heap.size, 0, none⟩ = some (.int .i64 s.num) := blk_cell HP.out 0; have s1 : w2.cell? ⟨w1.heap.size, 1, none⟩ = some (.int .i64 s.den) := blk_cell HP.out 1; have sf0 := blk_frozen HP.out 0; have sf1 := blk_frozen HP.out 1)
     focus try simp only []
     refine hK.out _ _ ?_ (fun hHeld => ?_)
     ·exact Z1e2
     focus (clear hK K; refine Zp1e ?_)
     iterate 2 (first | refine tk12.go ?_ | refine tk13.go ?_)
     refine wpAnyH_ready (rs := [14]) Z1e0 (by simp) (ac14 (fun K hK => ?_) (AllReadyH.nil))
     focus go_simp
     focus (refine (mustq_ok _ _).mono ?_; rintro e w2 ⟨rfl, hb2⟩; have HP := Lib.hid ((hb2.block _ (blk_lt HP.out)).trans HP.out); have s0 : w2.cell? ⟨w1.heap.size, 0, none⟩ = some (.int .i64 s.num) := blk_cell HP.out 0; have s1 : w2.cell? ⟨w1.heap.size, 1, none⟩ = some (.int .i64 s.den) := blk_cell HP.out 1; have sf0 := blk_frozen HP.out 0; have sf1 := blk_frozen HP.out 1)
     focus try simp only []
     refine hK.out _ _ ?_ (fun hHeld => ?_)
     ·exact Z1e2
     focus (clear hK K; refine Zp1e ?_)
     refine wpAnyH_ready (rs := [15]) Z1e0 (by simp) (ac15 (fun K hK => ?_) (AllReadyH.nil))
     focus go_simp
     refine hK.out _ _ ?_ (fun hHeld => ?_)
     ·(exact held_set hHeld nq nq nw)
     focus (clear hK K; refine Zp1e ?_)
     refine wpAnyH_done Z1e0 ?_ _; rotate_left 1
     focus go_simp
     focus (refine (times_ok (int_fit hci) hxf h1 _).mono ?_; rintro e w2 ⟨rfl, hb2⟩; have HP := Lib.hid ((hb2.block _ (blk_lt HP.out)).trans HP.out); have s0 : w2.cell? ⟨w1.heap.size, 0, none⟩ = some (.int .i64 s.num) := blk_cell HP.out 0; have s1 : w2.cell? ⟨w1.heap.size, 1, none⟩ = some (.int .i64 s.den) := blk_cell HP.out 1; have sf0 := blk_frozen HP.out 0; have sf1 := blk_frozen HP.out 1)
     focus try simp only []
     refine hK.out _ _ ?_ (fun hHeld => ?_)
     ·exact Z1e2
     focus (clear hK K; refine Zp1e ?_)
     iterate 2 (first | refine tk8.go ?_ | refine tk9.go ?_)
     refine wpAnyH_ready (rs := [0, 10]) Z1e0 (by simp) (ac0 (fun K hK => ?_) (ac10 (fun K hK => ?_) (AllReadyH.nil)))
     focus go_simp
     refine hK.out _ _ ?_ (fun hHeld => ?_)
     ·exact Z1e1
     focus (clear hK K; refine Zp1e ?_)
     refine wpAnyH_ready (rs := [10]) Z1e0 (by simp) (ac10 (fun K hK => ?_) (AllReadyH.nil))
     focus go_simp
     focus (refine (mustq_ok _ _).mono ?_; rintro e w2 ⟨rfl, hb2⟩; have HP := Lib.hid ((hb2.block _ (blk_lt HP.out)).trans HP.out); have s0 : w2.cell? ⟨w1.heap.size, 0, none⟩ = some (.int .i64 s.num) := blk_cell HP.out 0; have s1 : w2.cell? ⟨w1.heap.size, 1, none⟩ = some (.int .i64 s.den) := blk_cell HP.out 1; have sf0 := blk_frozen HP.out 0; have sf1 := blk_frozen HP.out 1)
     focus try simp only []
     refine hK.out _ _ ?_ (fun hHeld => ?_)
     ·exact Z1e2
     focus (clear hK K; refine Zp1e ?_)
     refine wpAnyH_ready (rs := [11]) Z1e0 (by simp) (ac11 (fun K hK => ?_) (AllReadyH.nil))
     focus go_simp
     focus (refine (plus_ok hs h1 h2 _).mono ?_; rintro e w2 ⟨rfl, hb2⟩; have HP := Lib.hid ((hb2.block _ (blk_lt HP.out)).trans HP.out); have s0 : w2.cell? ⟨w1.heap.size, 0, none⟩ = some (.int .i64 s.num) := blk_cell HP.out 0; have s1 : w2.cell? ⟨w1.heap.size, 1, none⟩ = some (.int .i64 s.den) := blk_cell HP.out 1; have sf0 := blk_frozen HP.out 0; have sf1 := blk_frozen HP.out 1)
     focus try simp only []
     refine hK.out _ _ ?_ (fun hHeld => ?_)
     ·exact Z1e2
     focus (clear hK K; refine Zp1e ?_)
     iterate 2 (first | refine tk12.go ?_ | refine tk13.go ?_)
     refine wpAnyH_ready (rs := [14]) Z1e0 (by simp) (ac14 (fun K hK => ?_) (AllReadyH.nil))
     focus go_simp
     focus (refine (mustq_ok _ _).mono ?_; rintro e w2 ⟨rfl, hb2⟩; have HP := Lib.hid ((hb2.block _ (blk_lt HP.out)).trans HP.out); have s0 : w2.cell? ⟨w1.heap.size, 0, none⟩ = some (.int .i64 s.num) := blk_cell HP.out 0; have s1 : w2.cell? ⟨w1.heap.size, 1, none⟩ = some (.int .i64 s.den) := blk_cell HP.out 1; have sf0 := blk_frozen HP.out 0; have sf1 := blk_frozen HP.out 1)
     focus try simp only []
     refine hK.out _ _ ?_ (fun hHeld => ?_)
     ·exact Z1e2
     focus (clear hK K; refine Zp1e ?_)
     refine wpAnyH_ready (rs := [15]) Z1e0 (by simp) (ac15 (fun K hK => ?_) (AllReadyH.nil))
     focus go_simp
     refine hK.out _ _ ?_ (fun hHeld => ?_)
     ·(exact held_set hHeld nq nq nw)
     focus (clear hK K; refine Zp1e ?_)
     refine wpAnyH_done Z1e0 ?_ _; rotate_left 1
     focus go_simp
     focus (refine (mustq_ok _ _).mono ?_; rintro e w2 ⟨rfl, hb2⟩; have HP := Lib.hid ((hb2.block _ (blk_lt HP.out)).trans HP.out); have s0 : w2.cell? ⟨w1.heap.size, 0, none⟩ = some (.int .i64 s.num) := blk_cell HP.out 0; have s1 : w2.cell? ⟨w1.heap.size, 1, none⟩ = some (.int .i64 s.den) := blk_cell HP.out 1; have sf0 := blk_frozen HP.out 0; have sf1 := blk_frozen HP.out 1)
     focus try simp only []
     refine hK.out _ _ ?_ (fun hHeld => ?_)
     ·exact Z1e2
     focus (clear hK K; refine Zp1e ?_)
     refine wpAnyH_ready (rs := [0]) Z1e0 (by simp) (ac0 (fun K hK => ?_) (AllReadyH.nil))
     focus go_simp
     refine hK.out _ _ ?_ (fun hHeld => ?_)
     ·exact Z1e1
     focus (clear hK K; refine Zp1e ?_)
     refine wpAnyH_ready (rs := [11]) Z1e0 (by simp) (ac11 (fun K hK => ?_) (AllReadyH.nil))
     focus go_simp
     focus (refine (plus_ok hs h1 h2 _).mono ?_; rintro e w2 ⟨rfl, hb2⟩; have HP := Lib.hid ((hb2.block _ (blk_lt HP.out)).trans HP.out); have s0 : w2.cell? ⟨w1.heap.size, 0, none⟩ = some (.int .i64 s.num) := blk_cell HP.out 0; have s1 : w2.cell? ⟨w1.heap.size, 1, none⟩ = some (.int .i64 s.den) := blk_cell HP.out 1; have sf0 := blk_frozen HP.out 0; have sf1 := blk_frozen HP.out 1)
     focus try simp only []
     refine hK.out _ _ ?_ (fun hHeld => ?_)
     ·exact Z1e2
     focus (clear hK K; refine Zp1e ?_)
     iterate 2 (first | refine tk12.go ?_ | refine tk13.go ?_)
     refine wpAnyH_ready (rs := [14]) Z1e0 (by simp) (ac14 (fun K hK => ?_) (AllReadyH.nil))
     focus go_simp
     focus (refine (mustq_ok _ _).mono ?_; rintro e w2 ⟨rfl, hb2⟩; have HP := Lib.hid ((hb2.block _ (blk_lt HP.out)).trans HP.out); have s0 : w2.cell? ⟨w1.heap.size, 0, none⟩ = some (.int .i64 s.num) := blk_cell HP.out 0; have s1 : w2.cell? ⟨w1.heap.size, 1, none⟩ = some (.int .i64 s.den) := blk_cell HP.out 1; have sf0 := blk_frozen HP.out 0; have sf1 := blk_frozen HP.out 1)
     focus try simp only []
     refine hK.out _ _ ?_ (fun hHeld => ?_)
     ·exact Z1e2
     focus (clear hK K; refine Zp1e ?_)
     refine wpAnyH_ready (rs := [15]) Z1e0 (by simp) (ac15 (fun K hK => ?_) (AllReadyH.nil))
     focus go_simp
     refine hK.out _ _ ?_ (fun hHeld => ?_)
     ·(exact held_set hHeld nq nq nw)
     focus (clear hK K; refine Zp1e ?_)
     refine wpAnyH_done Z1e0 ?_ _; rotate_left 1
     all_goals
      go_wp2
      refine ⟨⟨j + 1, s + (cj : Rat) * xj, hjl, congrArg (Value.int .i64) EW.out, h2, HL.out, blk_put (blk_put HP.out 0 _ rfl) 1 _ rfl, hHeld.2.2⟩, ?_⟩
      rw [EW.out]
      simp only [intOf, Int.toNat_natCast]
      exact meas_lt hjl
    ·rw [okQ, if_neg h2, Option.bind_none] at hL
     obtain rfl : r = none := hL.symm
     clear hL
     go_wp2_with fail
     refine wp_region_held_drew (S := (fun w' => w'.cell? (aq.add (j * 2)) = some (.int .i64 xj.num) ∧ w'.cell? ⟨(aq.add (j * 2)).block, (aq.add (j * 2)).off + 1, none⟩ = some (.int .i64 xj.den) ∧ Below w.heap.size w w')) Z1e0 ?_ (fun hHeld => ?_)
     ·exact Z1e1
     iterate 5 (first | refine tk1.go ?_ | refine tk3.go ?_ | refine tk4.go ?_ | refine tk5.go ?_ | refine tk6.go ?_)
     refine wpAnyH_ready (rs := [0, 2]) Z1e0 (by simp) (ac0 (fun K hK => ?_) (ac2 (fun K hK => ?_) (AllReadyH.nil)))
     focus go_simp
     refine hK.out _ _ ?_ (fun hHeld => ?_)
     ·exact Z1e1
     focus (clear hK K; refine Zp1e ?_)
     refine wpAnyH_ready (rs := [2]) Z1e0 (by simp) (ac2 (fun K hK => ?_) (AllReadyH.nil))
     focus go_simp
     focus (refine (whole_q _ _).mono ?_; rintro e w2 ⟨rfl, hb2⟩; have HP := Lib.hid ((hb2.block _ (blk_lt HP.out)).trans HP.out); have s0 : w2.cell? ⟨w1.heap.size, 0, none⟩ = some (.int .i64 s.num) := blk_cell HP.out 0; have s1 : w2.cell? ⟨w1.heap.size, 1, none⟩ = some (.int .i64 s.den) := blk_cell HP.out 1; have sf0 := blk_frozen HP.out 0; have sf1 := blk_frozen HP.out 1)
     focus try simp only []
     refine hK.out _ _ ?_ (fun hHeld => ?_)
     ·exact Z1e2
     focus (clear hK K; refine Zp1e ?_)
     refine wpAnyH_ready (rs := [7]) Z1e0 (by simp) (ac7 (fun K hK => ?_) (AllReadyH.nil))
     focus go_simp
     focus (refine (times_ok (int_fit hci) hxf h1 _).mono ?_; rintro e w2 ⟨rfl, hb2⟩; have HP := Lib.hid ((hb2.block _ (blk_lt HP.out)).trans HP.out); have s0 : w2.cell? ⟨w1.heap.size, 0, none⟩ = some (.int .i64 s.num) := blk_cell HP.out 0; have s1 : w2.cell? ⟨w1.heap.size, 1, none⟩ = some (.int .i64 s.den) := blk_cell HP.out 1; have sf0 := blk_frozen HP.out 0; have sf1 := blk_frozen HP.out 1)
     focus try simp only []
     refine hK.out _ _ ?_ (fun hHeld => ?_)
     ·exact Z1e2
     focus (clear hK K; refine Zp1e ?_)
     iterate 2 (first | refine tk8.go ?_ | refine tk9.go ?_)
     refine wpAnyH_ready (rs := [10]) Z1e0 (by simp) (ac10 (fun K hK => ?_) (AllReadyH.nil))
     focus go_simp
     focus (refine (mustq_ok _ _).mono ?_; rintro e w2 ⟨rfl, hb2⟩; have HP := Lib.hid ((hb2.block _ (blk_lt HP.out)).trans HP.out); have s0 : w2.cell? ⟨w1.heap.size, 0, none⟩ = some (.int .i64 s.num) := blk_cell HP.out 0; have s1 : w2.cell? ⟨w1.heap.size, 1, none⟩ = some (.int .i64 s.den) := blk_cell HP.out 1; have sf0 := blk_frozen HP.out 0; have sf1 := blk_frozen HP.out 1)
     focus try simp only []
     refine hK.out _ _ ?_ (fun hHeld => ?_)
     ·exact Z1e2
     focus (clear hK K; refine Zp1e ?_)
     refine wpAnyH_ready (rs := [11]) Z1e0 (by simp) (ac11 (fun K hK => ?_) (AllReadyH.nil))
     focus go_simp
     focus (refine (plus_no hs h1 h2 _).mono ?_; rintro e w2 ⟨rfl, hb2⟩; have HP := Lib.hid ((hb2.block _ (blk_lt HP.out)).trans HP.out); have s0 : w2.cell? ⟨w1.heap.size, 0, none⟩ = some (.int .i64 s.num) := blk_cell HP.out 0; have s1 : w2.cell? ⟨w1.heap.size, 1, none⟩ = some (.int .i64 s.den) := blk_cell HP.out 1; have sf0 := blk_frozen HP.out 0; have sf1 := blk_frozen HP.out 1)
     focus try simp only []
     refine hK.out _ _ ?_ (fun hHeld => ?_)
     ·exact Z1e2
     focus (clear hK K; refine Zp1e ?_)
     iterate 2 (first | refine tk12.go ?_ | refine tk13.go ?_)
     refine wpAnyH_ready (rs := [14]) Z1e0 (by simp) (ac14 (fun K hK => ?_) (AllReadyH.nil))
     focus go_simp
     ·exact Z1e3
     focus go_simp
     focus (refine (whole_q _ _).mono ?_; rintro e w2 ⟨rfl, hb2⟩; have HP := Lib.hid ((hb2.block _ (blk_lt HP.out)).trans HP.out); have s0 : w2.cell? ⟨w1.heap.size, 0, none⟩ = some (.int .i64 s.num) := blk_cell HP.out 0; have s1 : w2.cell? ⟨w1.heap.size, 1, none⟩ = some (.int .i64 s.den) := blk_cell HP.out 1; have sf0 := blk_frozen HP.out 0; have sf1 := blk_frozen HP.out 1)
     focus try simp only []
     refine hK.out _ _ ?_ (fun hHeld => ?_)
     ·exact Z1e2
     focus (clear hK K; refine Zp1e ?_)
     refine wpAnyH_ready (rs := [0, 7]) Z1e0 (by simp) (ac0 (fun K hK => ?_) (ac7 (fun K hK => ?_) (AllReadyH.nil)))
     focus go_simp
     refine hK.out _ _ ?_ (fun hHeld => ?_)
     ·exact Z1e1
     focus (clear hK K; refine Zp1e ?_)
     refine wpAnyH_ready (rs := [7]) Z1e0 (by simp) (ac7 (fun K hK => ?_) (AllReadyH.nil))
     focus go_simp
     focus (refine (times_ok (int_fit hci) hxf h1 _).mono ?_; rintro e w2 ⟨rfl, hb2⟩; have HP := Lib.hid ((hb2.block _ (blk_lt HP.out)).trans HP.out); have s0 : w2.cell? ⟨w1.heap.size, 0, none⟩ = some (.int .i64 s.num) := blk_cell HP.out 0; have s1 : w2.cell? ⟨w1.heap.size, 1, none⟩ = some (.int .i64 s.den) := blk_cell HP.out 1; have sf0 := blk_frozen HP.out 0; have sf1 := blk_frozen HP.out 1)
     focus try simp only []
     refine hK.out _ _ ?_ (fun hHeld => ?_)
     ·exact Z1e2
     focus (clear hK K; refine Zp1e ?_)
     iterate 2 (first | refine tk8.go ?_ | refine tk9.go ?_)
     refine wpAnyH_ready (rs := [10]) Z1e0 (by simp) (ac10 (fun K hK => ?_) (AllReadyH.nil))
     focus go_simp
     focus (refine (mustq_ok _ _).mono ?_; rintro e w2 ⟨rfl, hb2⟩; have HP := Lib.hid ((hb2.block _ (blk_lt HP.out)).trans HP.out); have s0 : w2.cell? ⟨w1.heap.size, 0, none⟩ = some (.int .i64 s.num) := blk_cell HP.out 0; have s1 : w2.cell? ⟨w1.heap.size, 1, none⟩ = some (.int .i64 s.den) := blk_cell HP.out 1; have sf0 := blk_frozen HP.out 0; have sf1 := blk_frozen HP.out 1)
     focus try simp only []
     refine hK.out _ _ ?_ (fun hHeld => ?_)
     ·exact Z1e2
     focus (clear hK K; refine Zp1e ?_)
     refine wpAnyH_ready (rs := [11]) Z1e0 (by simp) (ac11 (fun K hK => ?_) (AllReadyH.nil))
     focus go_simp
     focus (refine (plus_no hs h1 h2 _).mono ?_; rintro e w2 ⟨rfl, hb2⟩; have HP := Lib.hid ((hb2.block _ (blk_lt HP.out)).trans HP.out); have s0 : w2.cell? ⟨w1.heap.size, 0, none⟩ = some (.int .i64 s.num) := blk_cell HP.out 0; have s1 : w2.cell? ⟨w1.heap.size, 1, none⟩ = some (.int .i64 s.den) := blk_cell HP.out 1; have sf0 := blk_frozen HP.out 0; have sf1 := blk_frozen HP.out 1)
     focus try simp only []
     refine hK.out _ _ ?_ (fun hHeld => ?_)
     ·exact Z1e2
     focus (clear hK K; refine Zp1e ?_)
     iterate 2 (first | refine tk12.go ?_ | refine tk13.go ?_)
     refine wpAnyH_ready (rs := [14]) Z1e0 (by simp) (ac14 (fun K hK => ?_) (AllReadyH.nil))
     focus go_simp
     ·exact Z1e3
     focus go_simp
     focus (refine (times_ok (int_fit hci) hxf h1 _).mono ?_; rintro e w2 ⟨rfl, hb2⟩; have HP := Lib.hid ((hb2.block _ (blk_lt HP.out)).trans HP.out); have s0 : w2.cell? ⟨w1.heap.size, 0, none⟩ = some (.int .i64 s.num) := blk_cell HP.out 0; have s1 : w2.cell? ⟨w1.heap.size, 1, none⟩ = some (.int .i64 s.den) := blk_cell HP.out 1; have sf0 := blk_frozen HP.out 0; have sf1 := blk_frozen HP.out 1)
     focus try simp only []
     refine hK.out _ _ ?_ (fun hHeld => ?_)
     ·exact Z1e2
     focus (clear hK K; refine Zp1e ?_)
     iterate 2 (first | refine tk8.go ?_ | refine tk9.go ?_)
     refine wpAnyH_ready (rs := [0, 10]) Z1e0 (by simp) (ac0 (fun K hK => ?_) (ac10 (fun K hK => ?_) (AllReadyH.nil)))
     focus go_simp
     refine hK.out _ _ ?_ (fun hHeld => ?_)
     ·exact Z1e1
     focus (clear hK K; refine Zp1e ?_)
     refine wpAnyH_ready (rs := [10]) Z1e0 (by simp) (ac10 (fun K hK => ?_) (AllReadyH.nil))
     focus go_simp
     focus (refine (mustq_ok _ _).mono ?_; rintro e w2 ⟨rfl, hb2⟩; have HP := Lib.hid ((hb2.block _ (blk_lt HP.out)).trans HP.out); have s0 : w2.cell? ⟨w1.heap.size, 0, none⟩ = some (.int .i64 s.num) := blk_cell HP.out 0; have s1 : w2.cell? ⟨w1.heap.size, 1, none⟩ = some (.int .i64 s.den) := blk_cell HP.out 1; have sf0 := blk_frozen HP.out 0; have sf1 := blk_frozen HP.out 1)
     focus try simp only []
     refine hK.out _ _ ?_ (fun hHeld => ?_)
     ·exact Z1e2
     focus (clear hK K; refine Zp1e ?_)
     refine wpAnyH_ready (rs := [11]) Z1e0 (by simp) (ac11 (fun K hK => ?_) (AllReadyH.nil))
     focus go_simp
     focus (refine (plus_no hs h1 h2 _).mono ?_; rintro e w2 ⟨rfl, hb2⟩; have HP := Lib.hid ((hb2.block _ (blk_lt HP.out)).trans HP.out); have s0 : w2.cell? ⟨w1.heap.size, 0, none⟩ = some (.int .i64 s.num) := blk_cell HP.out 0; have s1 : w2.cell? ⟨w1.heap.size, 1, none⟩ = some (.int .i64 s.den) := blk_cell HP.out 1; have sf0 := blk_frozen HP.out 0; have sf1 := blk_frozen HP.out 1)
     focus try simp only []
     refine hK.out _ _ ?_ (fun hHeld => ?_)
     ·exact Z1e2
     focus (clear hK K; refine Zp1e ?_)
     iterate 2 (first | refine tk12.go ?_ | refine tk13.go ?_)
     refine wpAnyH_ready (rs := [14]) Z1e0 (by simp) (ac14 (fun K hK => ?_) (AllReadyH.nil))
     focus go_simp
     ·exact Z1e3
     focus go_simp
     focus (refine (mustq_ok _ _).mono ?_; rintro e w2 ⟨rfl, hb2⟩; have HP := Lib.hid ((hb2.block _ (blk_lt HP.out)).trans HP.out); have s0 : w2.cell? ⟨w1.heap.size, 0, none⟩ = some (.int .i64 s.num) := blk_cell HP.out 0; have s1 : w2.cell? ⟨w1.heap.size, 1, none⟩ = some (.int .i64 s.den) := blk_cell HP.out 1; have sf0 := blk_frozen HP.out 0; have sf1 := blk_frozen HP.out 1)
     focus try simp only []
     refine hK.out _ _ ?_ (fun hHeld => ?_)
     ·exact Z1e2
     focus (clear hK K; refine Zp1e ?_)
     refine wpAnyH_ready (rs := [0]) Z1e0 (by simp) (ac0 (fun K hK => ?_) (AllReadyH.nil))
     focus go_simp
     refine hK.out _ _ ?_ (fun hHeld => ?_)
     ·exact Z1e1
     focus (clear hK K; refine Zp1e ?_)
     refine wpAnyH_ready (rs := [11]) Z1e0 (by simp) (ac11 (fun K hK => ?_) (AllReadyH.nil))
     focus go_simp
     focus (refine (plus_no hs h1 h2 _).mono ?_; rintro e w2 ⟨rfl, hb2⟩; have HP := Lib.hid ((hb2.block _ (blk_lt HP.out)).trans HP.out); have s0 : w2.cell? ⟨w1.heap.size, 0, none⟩ = some (.int .i64 s.num) := blk_cell HP.out 0; have s1 : w2.cell? ⟨w1.heap.size, 1, none⟩ = some (.int .i64 s.den) := blk_cell HP.out 1; have sf0 := blk_frozen HP.out 0; have sf1 := blk_frozen HP.out 1)
     focus try simp only []
     refine hK.out _ _ ?_ (fun hHeld => ?_)
     ·exact Z1e2
     focus (clear hK K; refine Zp1e ?_)
     iterate 2 (first | refine tk12.go ?_ | refine tk13.go ?_)
     refine wpAnyH_ready (rs := [14]) Z1e0 (by simp) (ac14 (fun K hK => ?_) (AllReadyH.nil))
     focus go_simp
     ·exact Z1e3
   ·rw [okQ, if_neg h1, Option.bind_none] at hL
    obtain rfl : r = none := hL.symm
    clear hL
    go_wp2_with fail
    refine wp_region_held_drew (S := (fun w' => w'.cell? (aq.add (j * 2)) = some (.int .i64 xj.num) ∧ w'.cell? ⟨(aq.add (j * 2)).block, (aq.add (j * 2)).off + 1, none⟩ = some (.int .i64 xj.den) ∧ Below w.heap.size w w')) Z1e0 ?_ (fun hHeld => ?_)
    ·exact Z1e1
    iterate 5 (first | refine tk1.go ?_ | refine tk3.go ?_ | refine tk4.go ?_ | refine tk5.go ?_ | refine tk6.go ?_)
    refine wpAnyH_ready (rs := [0, 2]) Z1e0 (by simp) (ac0 (fun K hK => ?_) (ac2 (fun K hK => ?_) (AllReadyH.nil)))
    focus go_simp
    refine hK.out _ _ ?_ (fun hHeld => ?_)
    ·exact Z1e1
    focus (clear hK K; refine Zp1e ?_)
    refine wpAnyH_ready (rs := [2]) Z1e0 (by simp) (ac2 (fun K hK => ?_) (AllReadyH.nil))
    focus go_simp
    focus (refine (whole_q _ _).mono ?_; rintro e w2 ⟨rfl, hb2⟩; have HP := Lib.hid ((hb2.block _ (blk_lt HP.out)).trans HP.out); have s0 : w2.cell? ⟨w1.heap.size, 0, none⟩ = some (.int .i64 s.num) := blk_cell HP.out 0; have s1 : w2.cell? ⟨w1.heap.size, 1, none⟩ = some (.int .i64 s.den) := blk_cell HP.out 1; have sf0 := blk_frozen HP.out 0; have sf1 := blk_frozen HP.out 1)
    focus try simp only []
    refine hK.out _ _ ?_ (fun hHeld => ?_)
    ·exact Z1e2
    focus (clear hK K; refine Zp1e ?_)
    refine wpAnyH_ready (rs := [7]) Z1e0 (by simp) (ac7 (fun K hK => ?_) (AllReadyH.nil))
    focus go_simp
    focus (refine (times_no (int_fit hci) hxf h1 _).mono ?_; rintro e w2 ⟨rfl, hb2⟩; have HP := Lib.hid ((hb2.block _ (blk_lt HP.out)).trans HP.out); have s0 : w2.cell? ⟨w1.heap.size, 0, none⟩ = some (.int .i64 s.num) := blk_cell HP.out 0; have s1 : w2.cell? ⟨w1.heap.size, 1, none⟩ = some (.int .i64 s.den) := blk_cell HP.out 1; have sf0 := blk_frozen HP.out 0; have sf1 := blk_frozen HP.out 1)
    focus try simp only []
    refine hK.out _ _ ?_ (fun hHeld => ?_)
    ·exact Z1e2
    focus (clear hK K; refine Zp1e ?_)
    iterate 2 (first | refine tk8.go ?_ | refine tk9.go ?_)
    refine wpAnyH_ready (rs := [10]) Z1e0 (by simp) (ac10 (fun K hK => ?_) (AllReadyH.nil))
    focus go_simp
    ·exact Z1e3
    focus go_simp
    focus (refine (whole_q _ _).mono ?_; rintro e w2 ⟨rfl, hb2⟩; have HP := Lib.hid ((hb2.block _ (blk_lt HP.out)).trans HP.out); have s0 : w2.cell? ⟨w1.heap.size, 0, none⟩ = some (.int .i64 s.num) := blk_cell HP.out 0; have s1 : w2.cell? ⟨w1.heap.size, 1, none⟩ = some (.int .i64 s.den) := blk_cell HP.out 1; have sf0 := blk_frozen HP.out 0; have sf1 := blk_frozen HP.out 1)
    focus try simp only []
    refine hK.out _ _ ?_ (fun hHeld => ?_)
    ·exact Z1e2
    focus (clear hK K; refine Zp1e ?_)
    refine wpAnyH_ready (rs := [0, 7]) Z1e0 (by simp) (ac0 (fun K hK => ?_) (ac7 (fun K hK => ?_) (AllReadyH.nil)))
    focus go_simp
    refine hK.out _ _ ?_ (fun hHeld => ?_)
    ·exact Z1e1
    focus (clear hK K; refine Zp1e ?_)
    refine wpAnyH_ready (rs := [7]) Z1e0 (by simp) (ac7 (fun K hK => ?_) (AllReadyH.nil))
    focus go_simp
    focus (refine (times_no (int_fit hci) hxf h1 _).mono ?_; rintro e w2 ⟨rfl, hb2⟩; have HP := Lib.hid ((hb2.block _ (blk_lt HP.out)).trans HP.out); have s0 : w2.cell? ⟨w1.heap.size, 0, none⟩ = some (.int .i64 s.num) := blk_cell HP.out 0; have s1 : w2.cell? ⟨w1.heap.size, 1, none⟩ = some (.int .i64 s.den) := blk_cell HP.out 1; have sf0 := blk_frozen HP.out 0; have sf1 := blk_frozen HP.out 1)
    focus try simp only []
    refine hK.out _ _ ?_ (fun hHeld => ?_)
    ·exact Z1e2
    focus (clear hK K; refine Zp1e ?_)
    iterate 2 (first | refine tk8.go ?_ | refine tk9.go ?_)
    refine wpAnyH_ready (rs := [10]) Z1e0 (by simp) (ac10 (fun K hK => ?_) (AllReadyH.nil))
    focus go_simp
    ·exact Z1e3
    focus go_simp
    focus (refine (times_no (int_fit hci) hxf h1 _).mono ?_; rintro e w2 ⟨rfl, hb2⟩; have HP := Lib.hid ((hb2.block _ (blk_lt HP.out)).trans HP.out); have s0 : w2.cell? ⟨w1.heap.size, 0, none⟩ = some (.int .i64 s.num) := blk_cell HP.out 0; have s1 : w2.cell? ⟨w1.heap.size, 1, none⟩ = some (.int .i64 s.den) := blk_cell HP.out 1; have sf0 := blk_frozen HP.out 0; have sf1 := blk_frozen HP.out 1)
    focus try simp only []
    refine hK.out _ _ ?_ (fun hHeld => ?_)
    ·exact Z1e2
    focus (clear hK K; refine Zp1e ?_)
    iterate 2 (first | refine tk8.go ?_ | refine tk9.go ?_)
    refine wpAnyH_ready (rs := [0, 10]) Z1e0 (by simp) (ac0 (fun K hK => ?_) (ac10 (fun K hK => ?_) (AllReadyH.nil)))
    focus go_simp
    refine hK.out _ _ ?_ (fun hHeld => ?_)
    ·exact Z1e1
    focus (clear hK K; refine Zp1e ?_)
    refine wpAnyH_ready (rs := [10]) Z1e0 (by simp) (ac10 (fun K hK => ?_) (AllReadyH.nil))
    focus go_simp
    ·exact Z1e3
    focus go_simp
    ·exact Z1e3
  ·have hjj : j = l.length := by omega
   subst hjj
   rw [List.drop_length, show xs.drop l.length = [] by rw [HL.out, List.drop_length], show holdF [] [] s = some s from rfl] at hL
   obtain rfl : r = some s := hL.symm
   have s0 : wr.cell? ⟨w1.heap.size, 0, none⟩ = some (.int .i64 s.num) := blk_cell hP 0
   have s1 : wr.cell? ⟨w1.heap.size, 1, none⟩ = some (.int .i64 s.den) := blk_cell hP 1
   have HBR := Lib.hid hbr
   clear hL hP hbr
   go_wp2_with fail
   refine (sign_q s _).mono ?_
   rintro e w2 ⟨rfl, hb2⟩
   go_wp2
   go_ret
   exact ⟨congrArg (fun b => Ending.returned (.bool b)) (sg_le s), HBR.out.trans (hb2.mono HBR.out.size)⟩
end Go.Proofs.YtbpjnkeilhfajaaGreat.Ln
