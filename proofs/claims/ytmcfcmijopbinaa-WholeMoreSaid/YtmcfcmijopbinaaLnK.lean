import Derived.Test.YtmcfcmijopbinaaProg
import Derived.Below
import Derived.Deep.Draws
import Derived.Deep.AppendLies
import Derived.Maps.AppendAt
import Derived.OwnWalk
import Derived.Laws.BytesArg
import Derived.Laws.MakeOwn
import Derived.Laws.OwnMore
import Derived.Deep.OwnRows
import Derived.Tactics
import Derived.Lib.ConvBytes
import Derived.Laws.Slices
import Derived.WalkKit
import Derived.KernelRfl
import Derived.RowKit3
import Derived.Deep.LoopGhost
import Derived.Deep.QuietTactic
import Derived.BigQuiet
import Derived.WideLaws
import Derived.Deep.DeepCutAuto
import Derived.Deep.CutBlock
import Derived.Deep.RegionHeld3
import Derived.Laws.Rows
import Derived.Lib.AppendStr
import Derived.ArgAppend
import Derived.Laws.IdiomCopy
import Derived.OrdersHeld
import Derived.Laws.BitsLemmas
import Derived.RowKit
import Derived.Test.YtmcfcmijopbinaaWWords
import Derived.Test.YtmcfcmijopbinaaWLast
import Derived.Test.YtmcfcmijopbinaaWFootNe
import Derived.Test.YtmcfcmijopbinaaWMore
import Derived.Test.YtmcfcmijopbinaaTk
import Derived.Test.YtmcfcmijopbinaaLinT
section
/- The kinds of api.Row and num.Rat in memory, as the printer of the kit writes them. -/
namespace Go.Proofs.Ytmcfcmijopbinaa.Ln
open Go.RowKit Go.Proofs.YtmcfcmijopbinaaW.PrintWords Go.Proofs.YtmcfcmijopbinaaW.PrintLast Go.Proofs.YtmcfcmijopbinaaW.PrintMore
set_option linter.unusedVariables false
set_option linter.unusedSimpArgs false
structure S25 where
 f0 : (List Int)
 f1 : Int
def z25 : S25 := ⟨([] : List Int), (0 : Int)⟩
def k25 : Kd S25 := Kd.iso (Kd.pair (Kd.slice 2 (Kd.int .i64)) (Kd.int .i64)) (fun x : S25 => (x.f0, x.f1))
theorem k25_open {w : World} {x : S25} {cs : List Value} (h : k25.K w x cs) : ∃ A0 c0, cs = [.slice A0 x.f0.length c0, .int .i64 x.f1] ∧ x.f0.length ≤ c0 ∧ (Kd.int .i64).C w A0 x.f0.length x.f0 := by
 obtain ⟨_, _, rfl, ⟨A0, c0, rfl, l0, g0⟩, rfl⟩ := h
 exact ⟨A0, c0, rfl, l0, g0⟩
theorem k25_mk (w : World) (x : S25) {A0 : Option Addr} {c0 : Nat} (l0 : x.f0.length ≤ c0) (g0 : (Kd.int .i64).C w A0 x.f0.length x.f0) : k25.K w x [.slice A0 x.f0.length c0, .int .i64 x.f1] := ⟨[.slice A0 x.f0.length c0], [.int .i64 x.f1], rfl, ⟨A0, c0, rfl, l0, g0⟩, rfl⟩
structure S43 where
 f0 : Int
 f1 : Int
def z43 : S43 := ⟨(0 : Int), (0 : Int)⟩
def k43 : Kd S43 := Kd.iso (Kd.pair (Kd.int .i64) (Kd.int .i64)) (fun x : S43 => (x.f0, x.f1))
theorem k43_open {w : World} {x : S43} {cs : List Value} (h : k43.K w x cs) : cs = [.int .i64 x.f0, .int .i64 x.f1] := by
 obtain ⟨_, _, rfl, rfl, rfl⟩ := h
 rfl
theorem el_Q {W : World} {A : Option Addr} {l : List S43} (hC : Kd.C k43 W A l.length l) {j : Nat} (h : j < l.length) :
  ∃ ad, A = some ad ∧ W.cell? (ad.add (j * 2)) = some (.int .i64 l[j].f0) ∧ W.cell? ⟨(ad.add (j * 2)).block, (ad.add (j * 2)).off + 1, none⟩ = some (.int .i64 l[j].f1) := by
 obtain ⟨ad, c, e, _, hK, hc0⟩ := Kd.C_get hC z43 (j : Int) (by omega) (by omega)
 rw [Int.toNat_natCast] at hK hc0
 rw [show l.getD j z43 = l[j] by simp [List.getElem?_eq_getElem h]] at hK
 have hc : ∀ i u, c[i]? = some u → W.cell? (ad.add (j * 2 + i)) = some u := hc0
 have := k43_open hK
 subst this
 exact ⟨ad, e, hc 0 _ rfl, by rw [← add_field _ _ 1 (by omega)]; exact hc 1 _ rfl⟩
theorem el_I {W : World} {A : Option Addr} {l : List Int} (hC : (Kd.int .i64).C W A l.length l) {j : Nat} (h : j < l.length) :
  ∃ ad, A = some ad ∧ W.cell? (ad.add j) = some (.int .i64 l[j]) := by
 obtain ⟨ad, c, e, _, hK, hc0⟩ := Kd.C_get hC 0 (j : Int) (by omega) (by omega)
 rw [Int.toNat_natCast] at hK hc0
 rw [show l.getD j 0 = l[j] by simp [List.getElem?_eq_getElem h]] at hK
 have hc : ∀ i u, c[i]? = some u → W.cell? (ad.add (j * 1 + i)) = some u := hc0
 have : c = [.int .i64 l[j]] := hK
 subst this
 exact ⟨ad, e, by have := hc 0 _ rfl; rwa [Nat.mul_one, Nat.add_zero] at this⟩
theorem el_R {W : World} {A : Option Addr} {l : List S25} (hC : Kd.C k25 W A l.length l) {j : Nat} (h : j < l.length) :
  ∃ ad A' c', A = some ad ∧ W.cell? (ad.add (j * 2)) = some (.slice A' l[j].f0.length c') ∧ W.cell? ⟨(ad.add (j * 2)).block, (ad.add (j * 2)).off + 1, none⟩ = some (.int .i64 l[j].f1) ∧ l[j].f0.length ≤ c' ∧ (Kd.int .i64).C W A' l[j].f0.length l[j].f0 := by
 obtain ⟨ad, c, e, _, hK, hc0⟩ := Kd.C_get hC z25 (j : Int) (by omega) (by omega)
 rw [Int.toNat_natCast] at hK hc0
 rw [show l.getD j z25 = l[j] by simp [List.getElem?_eq_getElem h]] at hK
 have hc : ∀ i u, c[i]? = some u → W.cell? (ad.add (j * 2 + i)) = some u := hc0
 obtain ⟨A3, c3, rfl, l3, g3⟩ := k25_open hK
 exact ⟨ad, A3, c3, e, hc 0 _ rfl, by rw [← add_field _ _ 1 (by omega)]; exact hc 1 _ rfl, l3, g3⟩
end Go.Proofs.Ytmcfcmijopbinaa.Ln
end

section
/- linear.holds. -/
namespace Go.Proofs
theorem Zp1a {p q : Prop} (hq : q) (h : p = q := by first | (simp only [Act.put, List.setIfInBounds_toArray, List.set_cons_zero, List.set_cons_succ]; done) | (simp only [Act.put, List.setIfInBounds_toArray, List.set_cons_zero, List.set_cons_succ]; rfl) | rfl) : p := Eq.mpr h hq
theorem Z1a0 {p : Prop} (h : p := by kernel_rfl) : p := h
theorem Z1a1 {p : Prop} (h : p := by (first | exact ⟨kcell HBW.out.drew Y0.out, kcell HBW.out.drew Y1.out, HBR.out.drew⟩ | exact hHeld)) : p := h
theorem Z1a2 {p : Prop} (h : p := by exact ⟨kcell hb2 hHeld.1, kcell hb2 hHeld.2.1, hHeld.2.2.trans (hb2.mono hHeld.2.2.size)⟩) : p := h
theorem Z1a3 {p : Prop} (h : p := by (refine (mustR_no _ _ _).mono ?_; rintro e w2 ⟨rfl, hb2⟩; exact ⟨rfl, rfl, hHeld.2.2.trans (hb2.mono hHeld.2.2.size)⟩)) : p := h
end Go.Proofs
namespace Go.Proofs.Ytmcfcmijopbinaa.Ln
open Go.RowKit Go.Proofs.Ytmcfcmijopbinaa.Num Go.Proofs.Ytmcfcmijopbinaa.Given Go.Proofs.Ytmcfcmijopbinaa.Lin Go.Proofs.YtmcfcmijopbinaaW.PrintWords
set_option linter.unusedVariables false
set_option linter.unusedSimpArgs false
theorem wrapj {j : Nat} (h : j + 1 < 9223372036854775808) : wrap64 ((j : Int) + 1) = ((j + 1 : Nat) : Int) := by unfold wrap64; omega
theorem meas_lt {j n : Nat} (h : j < n) : n - (j + 1) < n - j := by omega
theorem succ_lt {j n : Nat} (h : j < n) (k : n ≤ 9223372036854775807) : j + 1 < 9223372036854775808 := by omega
theorem whole_q (n : Int) (w : World) : Calls Try.prog 44 #[.int .i64 n] w fun e w' => e = .returned (rv (n : Rat)) ∧ Below w.heap.size w w' := by
 rw [rv_int]; exact Whole_any n w
def ofQ (x : Rat) : S43 := ⟨x.num, (x.den : Int)⟩
theorem sign_q (x : Rat) (w : World) : Calls Try.prog 48 #[rv x] w fun e w' => e = .returned (.int .i64 (sg0 x.num)) ∧ Below w.heap.size w w' := sign_any _ _ w
theorem mustq_ok (x : Rat) (w : World) : Calls Try.prog 49 #[rv x, .bool true] w fun e w' => e = .returned (rv x) ∧ Below w.heap.size w w' := mustR_ok _ _ w
theorem sg_le (x : Rat) : decide (sg0 x.num ≤ 0) = decide (x ≤ 0) := by
 have : x.num ≤ 0 ↔ x ≤ 0 := by rw [Rat.le_iff]; simp
 unfold sg0
 by_cases h1 : x.num < 0
 ·rw [if_pos h1]; simp [← this]; omega
 ·rw [if_neg h1]
  by_cases h2 : 0 < x.num
  ·rw [if_pos h2]; simp [← this]; omega
  ·rw [if_neg h2]; simp [← this]; omega
theorem kcell {W w1 : World} {a : Addr} {v : Value} (hb : Below W.heap.size W w1) (h : W.cell? a = some v) : w1.cell? a = some v := (hb.cell (World.block_lt_of_cell? W _ h)).trans h
theorem held_set {W w' : World} {a b : Addr} {u v x y : Value} {g : Nat} (h : w'.cell? a = some u ∧ w'.cell? b = some v ∧ Below W.heap.size W w') (ha : a.block ≠ g) (hb : b.block ≠ g) (hg : W.heap.size ≤ g) :
  ((w'.setCell ⟨g, 0, none⟩ x).setCell ⟨g, 1, none⟩ y).cell? a = some u ∧ ((w'.setCell ⟨g, 0, none⟩ x).setCell ⟨g, 1, none⟩ y).cell? b = some v ∧ Below W.heap.size W ((w'.setCell ⟨g, 0, none⟩ x).setCell ⟨g, 1, none⟩ y) :=
 ⟨by rw [World.cell?_of_block ((Below.heap_setCell _ ⟨g, 1, none⟩ y _ ha).trans (Below.heap_setCell _ ⟨g, 0, none⟩ x _ ha))]; exact h.1, by rw [World.cell?_of_block ((Below.heap_setCell _ ⟨g, 1, none⟩ y _ hb).trans (Below.heap_setCell _ ⟨g, 0, none⟩ x _ hb))]; exact h.2.1, (h.2.2.setCell hg _).setCell hg _⟩
def HoldsEnd (o : Option Rat) (e : Ending) : Prop := match o with
 | some s => e = .returned (.bool (decide (s ≤ 0)))
 | none => e = .panicked LargeL
set_option maxHeartbeats 8000000 in
set_option maxRecDepth 100000 in
theorem holds_any (l : List Int) (k : Int) (xs : List Rat) (A A' : Option Addr) (c c' : Nat) (w0 w : World) (hl : l.length = xs.length) (hC : (Kd.int .i64).C w0 A l.length l) (hc : l.length ≤ c) (hX : Kd.C k43 w0 A' (xs.map ofQ).length (xs.map ofQ)) (hc' : xs.length ≤ c') (hB : Below w0.heap.size w0 w)
  (hk : In64 k) (hin : ∀ x, x ∈ l → In64 x) (hfit : ∀ x, x ∈ xs → Fit x) :
  Calls Try.prog 60 #[.agg #[.slice A l.length c, .int .i64 k], .slice A' xs.length c'] w fun e w' => HoldsEnd (holdF l xs (k : Rat)) e ∧ Below w.heap.size w w' := by
 obtain ⟨r, hr⟩ : ∃ r, holdF l xs (k : Rat) = r := ⟨_, rfl⟩
 rw [hr]
 have HC := Lib.hid hC
 have HX := Lib.hid hX
 have HB := Lib.hid hB
 have HI := Lib.hid hin
 have HF := Lib.hid hfit
 have HL := Lib.hid hl
 have HR := Lib.hid hr
 have HK := Lib.hid (int_fit hk)
 clear hC hX hB hin hfit hr hk hl
 go_enter Try.func60, Try.ntmps60
 go_wp2_with fail
 refine (whole_q _ _).mono ?_
 rintro e w1 ⟨rfl, hb1⟩
 have hz1 := hb1.size
 simp at hz1
 have hlt1 : w.heap.size < w1.heap.size := by omega
 have hne1 : w.heap.size ≠ w1.heap.size := by omega
 have HB1 := Lib.hid (show Below w.heap.size w w1 from ((Below.refl _ _).alloc (Nat.le_refl _) _).trans (hb1.mono (by simp)))
 have pb := Lib.hid (blk_below (blk_new w _) hb1)
 have p0 : w1.cell? ⟨w.heap.size, 0, none⟩ = some (.slice A l.length c) := blk_cell pb.out 0
 clear hb1
 go_wp2
 have hsb := Lib.hid (blk_new w1 (.cells #[.int .i64 k, .int .i64 1] 43))
 have zs := Lib.hid (show w.heap.size < w1.heap.size by omega)
 have HB2 := Lib.hid (HB1.out.alloc HB1.out.size (.cells #[.int .i64 k, .int .i64 1] 43))
 clear p0 pb
 go_loopw [14] (fun v wr => ∃ (j : Nat) (s : Rat), j ≤ l.length ∧ v = .int .i64 j ∧ Fit s ∧ holdF (l.drop j) (xs.drop j) s = r ∧ wr.heap[w1.heap.size]? = some (.cells #[.int .i64 s.num, .int .i64 s.den] 43 (0, 0)) ∧ Below w.heap.size w wr) (fun v _ => l.length - (intOf v).toNat)
 case atStart => exact ⟨0, (k : Rat), Nat.zero_le _, rfl, HK.out, by simp only [List.drop_zero]; exact HR.out, by rw [Rat.num_intCast, Rat.den_intCast]; exact hsb.out, HB2.out⟩
 case round =>
  obtain ⟨j, s, hj, rfl, hs, hL, hP, hbr⟩ := hrel
  by_cases hjl : j < l.length
  ·have hmax := Kd.C_max HC.out
   have hjx : j < xs.length := by rw [← HL.out]; exact hjl
   obtain ⟨ad, e, x0⟩ := el_I HC.out hjl
   obtain ⟨aq, e', y0, y1⟩ := el_Q HX.out (show j < (xs.map ofQ).length by rw [List.length_map]; exact hjx)
   rw [List.getElem_map] at y0 y1
   have hbw : Below w0.heap.size w0 wr := HB.out.trans (hbr.mono HB.out.size)
   rw [List.drop_eq_getElem_cons hjl, List.drop_eq_getElem_cons hjx, holdF] at hL
   have hci := HI.out _ (List.getElem_mem hjl)
   have hxf := HF.out _ (List.getElem_mem hjx)
   generalize l[j] = cj at *
   generalize xs[j] = xj at *
   have x0' := (hbw.cell (World.block_lt_of_cell? w0 _ x0)).trans x0
   have lx := World.block_lt_of_cell? w0 _ x0
   have ly0 := World.block_lt_of_cell? w0 _ y0
   have ly1 := World.block_lt_of_cell? w0 _ y1
   subst e
   subst e'
   have EW := Lib.hid (wrapj (succ_lt hjl hmax))
   have HP := Lib.hid hP
   have s0 : wr.cell? ⟨w1.heap.size, 0, none⟩ = some (.int .i64 s.num) := blk_cell hP 0
   have s1 : wr.cell? ⟨w1.heap.size, 1, none⟩ = some (.int .i64 s.den) := blk_cell hP 1
   have HBR := Lib.hid hbr
   have HBW := Lib.hid hbw
   have Y0 := Lib.hid y0
   have Y1 := Lib.hid y1
   have nq : (aq.add (j * 2)).block ≠ w1.heap.size := by have zw := HB.out.size; omega
   have nw : w.heap.size ≤ w1.heap.size := by omega
   clear hP hbr hbw y0 y1 x0 hmax lx ly0 ly1
   by_cases h1 : Fit ((cj : Rat) * xj)
   ·rw [okQ_fit h1, Option.bind_some] at hL
    by_cases h2 : Fit (s + (cj : Rat) * xj)
    ·rw [okQ_fit h2, Option.bind_some] at hL
     have HL := Lib.hid hL
     clear hL
     go_wp2_with fail
     refine wp_region_held_drew (S := (fun w' => w'.cell? (aq.add (j * 2)) = some (.int .i64 xj.num) ∧ w'.cell? ⟨(aq.add (j * 2)).block, (aq.add (j * 2)).off + 1, none⟩ = some (.int .i64 xj.den) ∧ Below w.heap.size w w')) Z1a0 ?_ (fun hHeld => ?_)
     ·exact Z1a1
     iterate 5 (first | refine tk1.go ?_ | refine tk3.go ?_ | refine tk4.go ?_ | refine tk5.go ?_ | refine tk6.go ?_)
     refine wpAnyH_ready (rs := [0, 2]) Z1a0 (by simp) (ac0 (fun K hK => ?_) (ac2 (fun K hK => ?_) (AllReadyH.nil)))
     focus go_simp
     refine hK.out _ _ ?_ (fun hHeld => ?_)
     ·exact Z1a1
     focus (clear hK K; refine Zp1a ?_)
     refine wpAnyH_ready (rs := [2]) Z1a0 (by simp) (ac2 (fun K hK => ?_) (AllReadyH.nil))
     focus go_simp
     focus (refine (whole_q _ _).mono ?_; rintro e w2 ⟨rfl, hb2⟩; have HP := Lib.hid ((hb2.block _ (blk_lt HP.out)).trans HP.out); have s0 : w2.cell? ⟨w1.heap.size, 0, none⟩ = some (.int .i64 s.num) := blk_cell HP.out 0; have s1 : w2.cell? ⟨w1.heap.size, 1, none⟩ = some (.int .i64 s.den) := blk_cell HP.out 1; have sf0 := blk_frozen HP.out 0; have sf1 := blk_frozen HP.out 1)
     focus try simp only []
     refine hK.out _ _ ?_ (fun hHeld => ?_)
     ·exact Z1a2
     focus (clear hK K; refine Zp1a ?_)
     refine wpAnyH_ready (rs := [7]) Z1a0 (by simp) (ac7 (fun K hK => ?_) (AllReadyH.nil))
     focus go_simp
     focus (refine (times_ok (int_fit hci) hxf h1 _).mono ?_; rintro e w2 ⟨rfl, hb2⟩; have HP := Lib.hid ((hb2.block _ (blk_lt HP.out)).trans HP.out); have s0 : w2.cell? ⟨w1.heap.size, 0, none⟩ = some (.int .i64 s.num) := blk_cell HP.out 0; have s1 : w2.cell? ⟨w1.heap.size, 1, none⟩ = some (.int .i64 s.den) := blk_cell HP.out 1; have sf0 := blk_frozen HP.out 0; have sf1 := blk_frozen HP.out 1)
     focus try simp only []
     refine hK.out _ _ ?_ (fun hHeld => ?_)
     ·exact Z1a2
     focus (clear hK K; refine Zp1a ?_)
     iterate 2 (first | refine tk8.go ?_ | refine tk9.go ?_)
     refine wpAnyH_ready (rs := [10]) Z1a0 (by simp) (ac10 (fun K hK => ?_) (AllReadyH.nil))
     focus go_simp
     focus (refine (mustq_ok _ _).mono ?_; rintro e w2 ⟨rfl, hb2⟩; have HP := Lib.hid ((hb2.block _ (blk_lt HP.out)).trans HP.out); have s0 : w2.cell? ⟨w1.heap.size, 0, none⟩ = some (.int .i64 s.num) := blk_cell HP.out 0; have s1 : w2.cell? ⟨w1.heap.size, 1, none⟩ = some (.int .i64 s.den) := blk_cell HP.out 1; have sf0 := blk_frozen HP.out 0; have sf1 := blk_frozen HP.out 1)
     focus try simp only []
     refine hK.out _ _ ?_ (fun hHeld => ?_)
     ·exact Z1a2
     focus (clear hK K; refine Zp1a ?_)
     refine wpAnyH_ready (rs := [11]) Z1a0 (by simp) (ac11 (fun K hK => ?_) (AllReadyH.nil))
     focus go_simp
     focus (refine (plus_ok hs h1 h2 _).mono ?_; rintro e w2 ⟨rfl, hb2⟩; have HP := Lib.hid ((hb2.block _ (blk_lt HP.out)).trans HP.out); have s0 : w2.cell? ⟨w1.heap.size, 0, none⟩ = some (.int .i64 s.num) := blk_cell HP.out 0; have s1 : w2.cell? ⟨w1.heap.size, 1, none⟩ = some (.int .i64 s.den) := blk_cell HP.out 1; have sf0 := blk_frozen HP.out 0; have sf1 := blk_frozen HP.out 1)
     focus try simp only []
     refine hK.out _ _ ?_ (fun hHeld => ?_)
     ·exact Z1a2
     focus (clear hK K; refine Zp1a ?_)
     iterate 2 (first | refine tk12.go ?_ | refine tk13.go ?_)
     refine wpAnyH_ready (rs := [14]) Z1a0 (by simp) (ac14 (fun K hK => ?_) (AllReadyH.nil))
     focus go_simp
     focus (refine (mustq_ok _ _).mono ?_; rintro e w2 ⟨rfl, hb2⟩; have HP := Lib.hid ((hb2.block _ (blk_lt HP.out)).trans HP.out); have s0 : w2.cell? ⟨w1.heap.size, 0, none⟩ = some (.int .i64 s.num) := blk_cell HP.out 0; have s1 : w2.cell? ⟨w1.heap.size, 1, none⟩ = some (.int .i64 s.den) := blk_cell HP.out 1; have sf0 := blk_frozen HP.out 0; have sf1 := blk_frozen HP.out 1)
     focus try simp only []
     refine hK.out _ _ ?_ (fun hHeld => ?_)
     ·exact Z1a2
     focus (clear hK K; refine Zp1a ?_)
     refine wpAnyH_ready (rs := [15]) Z1a0 (by simp) (ac15 (fun K hK => ?_) (AllReadyH.nil))
     focus go_simp
     refine hK.out _ _ ?_ (fun hHeld => ?_)
     ·(exact held_set hHeld nq nq nw)
     focus (clear hK K; refine Zp1a ?_)
     refine wpAnyH_done Z1a0 ?_ _; rotate_left 1
     focus go_simp
     focus (refine (whole_q _ _).mono ?_; rintro e w2 ⟨rfl, hb2⟩; have HP := Lib.hid ((hb2.block _ (blk_lt HP.out)).trans HP.out); have s0 : w2.cell? ⟨w1.heap.size, 0, none⟩ = some (.int .i64 s.num) := blk_cell HP.out 0; have s1 : w2.cell? ⟨w1.heap.size, 1, none⟩ = some (.int .i64 s.den) := blk_cell HP.out 1; have sf0 := blk_frozen HP.out 0; have sf1 := blk_frozen HP.out 1)
     focus try simp only []
     refine hK.out _ _ ?_ (fun hHeld => ?_)
     ·exact Z1a2
     focus (clear hK K; refine Zp1a ?_)
     refine wpAnyH_ready (rs := [0, 7]) Z1a0 (by simp) (ac0 (fun K hK => ?_) (ac7 (fun K hK => ?_) (AllReadyH.nil)))
     focus go_simp
     refine hK.out _ _ ?_ (fun hHeld => ?_)
     ·exact Z1a1
     focus (clear hK K; refine Zp1a ?_)
     refine wpAnyH_ready (rs := [7]) Z1a0 (by simp) (ac7 (fun K hK => ?_) (AllReadyH.nil))
     focus go_simp
     focus (refine (times_ok (int_fit hci) hxf h1 _).mono ?_; rintro e w2 ⟨rfl, hb2⟩; have HP := Lib.hid ((hb2.block _ (blk_lt HP.out)).trans HP.out); have s0 : w2.cell? ⟨w1.heap.size, 0, none⟩ = some (.int .i64 s.num) := blk_cell HP.out 0; have s1 : w2.cell? ⟨w1.heap.size, 1, none⟩ = some (.int .i64 s.den) := blk_cell HP.out 1; have sf0 := blk_frozen HP.out 0; have sf1 := blk_frozen HP.out 1)
     focus try simp only []
     refine hK.out _ _ ?_ (fun hHeld => ?_)
     ·exact Z1a2
     focus (clear hK K; refine Zp1a ?_)
     iterate 2 (first | refine tk8.go ?_ | refine tk9.go ?_)
     refine wpAnyH_ready (rs := [10]) Z1a0 (by simp) (ac10 (fun K hK => ?_) (AllReadyH.nil))
     focus go_simp
     focus (refine (mustq_ok _ _).mono ?_; rintro e w2 ⟨rfl, hb2⟩; have HP := Lib.hid ((hb2.block _ (blk_lt HP.out)).trans HP.out); have s0 : w2.cell? ⟨w1.heap.size, 0, none⟩ = some (.int .i64 s.num) := blk_cell HP.out 0; have s1 : w2.cell? ⟨w1.heap.size, 1, none⟩ = some (.int .i64 s.den) := blk_cell HP.out 1; have sf0 := blk_frozen HP.out 0; have sf1 := blk_frozen HP.out 1)
     focus try simp only []
     refine hK.out _ _ ?_ (fun hHeld => ?_)
     ·exact Z1a2
     focus (clear hK K; refine Zp1a ?_)
     refine wpAnyH_ready (rs := [11]) Z1a0 (by simp) (ac11 (fun K hK => ?_) (AllReadyH.nil))
     focus go_simp
     focus (refine (plus_ok hs h1 h2 _).mono ?_; rintro e w2 ⟨rfl, hb2⟩; have HP := Lib.hid ((hb2.block _ (blk_lt HP.out)).trans HP.out); have s0 : w2.cell? ⟨w1.heap.size, 0, none⟩ = some (.int .i64 s.num) := blk_cell HP.out 0; have s1 : w2.cell? ⟨w1.heap.size, 1, none⟩ = some (.int .i64 s.den) := blk_cell HP.out 1; have sf0 := blk_frozen HP.out 0; have sf1 := blk_frozen HP.out 1)
     focus try simp only []
     refine hK.out _ _ ?_ (fun hHeld => ?_)
     ·exact Z1a2
     focus (clear hK K; refine Zp1a ?_)
     iterate 2 (first | refine tk12.go ?_ | refine tk13.go ?_)
     refine wpAnyH_ready (rs := [14]) Z1a0 (by simp) (ac14 (fun K hK => ?_) (AllReadyH.nil))
     focus go_simp
     focus (refine (mustq_ok _ _).mono ?_; rintro e w2 ⟨rfl, hb2⟩; have HP := Lib.hid ((hb2.block _ (blk_lt HP.out)).trans HP.out); have s0 : w2.cell? ⟨w1.heap.size, 0, none⟩ = some (.int .i64 s.num) := blk_cell HP.out 0; have s1 : w2.cell? ⟨w1.heap.size, 1, none⟩ = some (.int .i64 s.den) := blk_cell HP.out 1; have sf0 := blk_frozen HP.out 0; have sf1 := blk_frozen HP.out 1)
     focus try simp only []
     refine hK.out _ _ ?_ (fun hHeld => ?_)
     ·exact Z1a2
     focus (clear hK K; refine Zp1a ?_)
     refine wpAnyH_ready (rs := [15]) Z1a0 (by simp) (ac15 (fun K hK => ?_) (AllReadyH.nil))
     focus go_simp
     refine hK.out _ _ ?_ (fun hHeld => ?_)
     ·(exact held_set hHeld nq nq nw)
     focus (clear hK K; refine Zp1a ?_)
     refine wpAnyH_done Z1a0 ?_ _; rotate_left 1
     focus go_simp
     focus (refine (times_ok (int_fit hci) hxf h1 _).mono ?_; rintro e w2 ⟨rfl, hb2⟩; have HP := Lib.hid ((hb2.block _ (blk_lt HP.out)).trans HP.out); have s0 : w2.cell? ⟨w1.heap.size, 0, none⟩ = some (.int .i64 s.num) := blk_cell HP.out 0; have s1 : w2.cell? ⟨w1.heap.size, 1, none⟩ = some (.int .i64 s.den) := blk_cell HP.out 1; have sf0 := blk_frozen HP.out 0; have sf1 := blk_frozen HP.out 1)
     focus try simp only []
     refine hK.out _ _ ?_ (fun hHeld => ?_)
     ·exact Z1a2
     focus (clear hK K; refine Zp1a ?_)
     iterate 2 (first | refine tk8.go ?_ | refine tk9.go ?_)
     refine wpAnyH_ready (rs := [0, 10]) Z1a0 (by simp) (ac0 (fun K hK => ?_) (ac10 (fun K hK => ?_) (AllReadyH.nil)))
     focus go_simp
     refine hK.out _ _ ?_ (fun hHeld => ?_)
     ·exact Z1a1
     focus (clear hK K; refine Zp1a ?_)
     refine wpAnyH_ready (rs := [10]) Z1a0 (by simp) (ac10 (fun K hK => ?_) (AllReadyH.nil))
     focus go_simp
     focus (refine (mustq_ok _ _).mono ?_; rintro e w2 ⟨rfl, hb2⟩; have HP := Lib.hid ((hb2.block _ (blk_lt HP.out)).trans HP.out); have s0 : w2.cell? ⟨w1.heap.size, 0, none⟩ = some (.int .i64 s.num) := blk_cell HP.out 0; have s1 : w2.cell? ⟨w1.heap.size, 1, none⟩ = some (.int .i64 s.den) := blk_cell HP.out 1; have sf0 := blk_frozen HP.out 0; have sf1 := blk_frozen HP.out 1)
     focus try simp only []
     refine hK.out _ _ ?_ (fun hHeld => ?_)
     ·exact Z1a2
     focus (clear hK K; refine Zp1a ?_)
     refine wpAnyH_ready (rs := [11]) Z1a0 (by simp) (ac11 (fun K hK => ?_) (AllReadyH.nil))
     focus go_simp
     focus (refine (plus_ok hs h1 h2 _).mono ?_; rintro e w2 ⟨rfl, hb2⟩; have HP := Lib.hid ((hb2.block _ (blk_lt HP.out)).trans HP.out); have s0 : w2.cell? ⟨w1.heap.size, 0, none⟩ = some (.int .i64 s.num) := blk_cell HP.out 0; have s1 : w2.cell? ⟨w1.heap.size, 1, none⟩ = some (.int .i64 s.den) := blk_cell HP.out 1; have sf0 := blk_frozen HP.out 0; have sf1 := blk_frozen HP.out 1)
     focus try simp only []
     refine hK.out _ _ ?_ (fun hHeld => ?_)
     ·exact Z1a2
     focus (clear hK K; refine Zp1a ?_)
     iterate 2 (first | refine tk12.go ?_ | refine tk13.go ?_)
     refine wpAnyH_ready (rs := [14]) Z1a0 (by simp) (ac14 (fun K hK => ?_) (AllReadyH.nil))
     focus go_simp
     focus (refine (mustq_ok _ _).mono ?_; rintro e w2 ⟨rfl, hb2⟩; have HP := Lib.hid ((hb2.block _ (blk_lt HP.out)).trans HP.out); have s0 : w2.cell? ⟨w1.heap.size, 0, none⟩ = some (.int .i64 s.num) := blk_cell HP.out 0; have s1 : w2.cell? ⟨w1.heap.size, 1, none⟩ = some (.int .i64 s.den) := blk_cell HP.out 1; have sf0 := blk_frozen HP.out 0; have sf1 := blk_frozen HP.out 1)
     focus try simp only []
     refine hK.out _ _ ?_ (fun hHeld => ?_)
     ·exact Z1a2
     focus (clear hK K; refine Zp1a ?_)
     refine wpAnyH_ready (rs := [15]) Z1a0 (by simp) (ac15 (fun K hK => ?_) (AllReadyH.nil))
     focus go_simp
     refine hK.out _ _ ?_ (fun hHeld => ?_)
     ·(exact held_set hHeld nq nq nw)
     focus (clear hK K; refine Zp1a ?_)
     refine wpAnyH_done Z1a0 ?_ _; rotate_left 1
     focus go_simp
     focus (refine (mustq_ok _ _).mono ?_; rintro e w2 ⟨rfl, hb2⟩; have HP := Lib.hid ((hb2.block _ (blk_lt HP.out)).trans HP.out); have s0 : w2.cell? ⟨w1.heap.size, 0, none⟩ = some (.int .i64 s.num) := blk_cell HP.out 0; have s1 : w2.cell? ⟨w1.heap.size, 1, none⟩ = some (.int .i64 s.den) := blk_cell HP.out 1; have sf0 := blk_frozen HP.out 0; have sf1 := blk_frozen HP.out 1)
     focus try simp only []
     refine hK.out _ _ ?_ (fun hHeld => ?_)
     ·exact Z1a2
     focus (clear hK K; refine Zp1a ?_)
     refine wpAnyH_ready (rs := [0]) Z1a0 (by simp) (ac0 (fun K hK => ?_) (AllReadyH.nil))
     focus go_simp
     refine hK.out _ _ ?_ (fun hHeld => ?_)
     ·exact Z1a1
     focus (clear hK K; refine Zp1a ?_)
     refine wpAnyH_ready (rs := [11]) Z1a0 (by simp) (ac11 (fun K hK => ?_) (AllReadyH.nil))
     focus go_simp
     focus (refine (plus_ok hs h1 h2 _).mono ?_; rintro e w2 ⟨rfl, hb2⟩; have HP := Lib.hid ((hb2.block _ (blk_lt HP.out)).trans HP.out); have s0 : w2.cell? ⟨w1.heap.size, 0, none⟩ = some (.int .i64 s.num) := blk_cell HP.out 0; have s1 : w2.cell? ⟨w1.heap.size, 1, none⟩ = some (.int .i64 s.den) := blk_cell HP.out 1; have sf0 := blk_frozen HP.out 0; have sf1 := blk_frozen HP.out 1)
     focus try simp only []
     refine hK.out _ _ ?_ (fun hHeld => ?_)
     ·exact Z1a2
     focus (clear hK K; refine Zp1a ?_)
     iterate 2 (first | refine tk12.go ?_ | refine tk13.go ?_)
     refine wpAnyH_ready (rs := [14]) Z1a0 (by simp) (ac14 (fun K hK => ?_) (AllReadyH.nil))
     focus go_simp
     focus (refine (mustq_ok _ _).mono ?_; rintro e w2 ⟨rfl, hb2⟩; have HP := Lib.hid ((hb2.block _ (blk_lt HP.out)).trans HP.out); have s0 : w2.cell? ⟨w1.heap.size, 0, none⟩ = some (.int .i64 s.num) := blk_cell HP.out 0; have s1 : w2.cell? ⟨w1.heap.size, 1, none⟩ = some (.int .i64 s.den) := blk_cell HP.out 1; have sf0 := blk_frozen HP.out 0; have sf1 := blk_frozen HP.out 1)
     focus try simp only []
     refine hK.out _ _ ?_ (fun hHeld => ?_)
     ·exact Z1a2
     focus (clear hK K; refine Zp1a ?_)
     refine wpAnyH_ready (rs := [15]) Z1a0 (by simp) (ac15 (fun K hK => ?_) (AllReadyH.nil))
     focus go_simp
     refine hK.out _ _ ?_ (fun hHeld => ?_)
     ·(exact held_set hHeld nq nq nw)
     focus (clear hK K; refine Zp1a ?_)
     refine wpAnyH_done Z1a0 ?_ _; rotate_left 1
     all_goals
      go_wp2
      refine ⟨⟨j + 1, s + (cj : Rat) * xj, hjl, congrArg (Value.int .i64) EW.out, h2, HL.out, blk_put (blk_put HP.out 0 _ rfl) 1 _ rfl, hHeld.2.2⟩, ?_⟩
      rw [EW.out]
      simp only [intOf, Int.toNat_natCast]
      exact meas_lt hjl
    ·rw [okQ, if_neg h2, Option.bind_none] at hL
     obtain rfl : r = none := hL.symm
     clear hL
     go_wp2_with fail
     refine wp_region_held_drew (S := (fun w' => w'.cell? (aq.add (j * 2)) = some (.int .i64 xj.num) ∧ w'.cell? ⟨(aq.add (j * 2)).block, (aq.add (j * 2)).off + 1, none⟩ = some (.int .i64 xj.den) ∧ Below w.heap.size w w')) Z1a0 ?_ (fun hHeld => ?_)
     ·exact Z1a1
     iterate 5 (first | refine tk1.go ?_ | refine tk3.go ?_ | refine tk4.go ?_ | refine tk5.go ?_ | refine tk6.go ?_)
     refine wpAnyH_ready (rs := [0, 2]) Z1a0 (by simp) (ac0 (fun K hK => ?_) (ac2 (fun K hK => ?_) (AllReadyH.nil)))
     focus go_simp
     refine hK.out _ _ ?_ (fun hHeld => ?_)
     ·exact Z1a1
     focus (clear hK K; refine Zp1a ?_)
     refine wpAnyH_ready (rs := [2]) Z1a0 (by simp) (ac2 (fun K hK => ?_) (AllReadyH.nil))
     focus go_simp
     focus (refine (whole_q _ _).mono ?_; rintro e w2 ⟨rfl, hb2⟩; have HP := Lib.hid ((hb2.block _ (blk_lt HP.out)).trans HP.out); have s0 : w2.cell? ⟨w1.heap.size, 0, none⟩ = some (.int .i64 s.num) := blk_cell HP.out 0; have s1 : w2.cell? ⟨w1.heap.size, 1, none⟩ = some (.int .i64 s.den) := blk_cell HP.out 1; have sf0 := blk_frozen HP.out 0; have sf1 := blk_frozen HP.out 1)
     focus try simp only []
     refine hK.out _ _ ?_ (fun hHeld => ?_)
     ·exact Z1a2
     focus (clear hK K; refine Zp1a ?_)
     refine wpAnyH_ready (rs := [7]) Z1a0 (by simp) (ac7 (fun K hK => ?_) (AllReadyH.nil))
     focus go_simp
     focus (refine (times_ok (int_fit hci) hxf h1 _).mono ?_; rintro e w2 ⟨rfl, hb2⟩; have HP := Lib.hid ((hb2.block _ (blk_lt HP.out)).trans HP.out); have s0 : w2.cell? ⟨w1.heap.size, 0, none⟩ = some (.int .i64 s.num) := blk_cell HP.out 0; have s1 : w2.cell? ⟨w1.heap.size, 1, none⟩ = some (.int .i64 s.den) := blk_cell HP.out 1; have sf0 := blk_frozen HP.out 0; have sf1 := blk_frozen HP.out 1)
     focus try simp only []
     refine hK.out _ _ ?_ (fun hHeld => ?_)
     ·exact Z1a2
     focus (clear hK K; refine Zp1a ?_)
     iterate 2 (first | refine tk8.go ?_ | refine tk9.go ?_)
     refine wpAnyH_ready (rs := [10]) Z1a0 (by simp) (ac10 (fun K hK => ?_) (AllReadyH.nil))
     focus go_simp
     focus (refine (mustq_ok _ _).mono ?_; rintro e w2 ⟨rfl, hb2⟩; have HP := Lib.hid ((hb2.block _ (blk_lt HP.out)).trans HP.out); have s0 : w2.cell? ⟨w1.heap.size, 0, none⟩ = some (.int .i64 s.num) := blk_cell HP.out 0; have s1 : w2.cell? ⟨w1.heap.size, 1, none⟩ = some (.int .i64 s.den) := blk_cell HP.out 1; have sf0 := blk_frozen HP.out 0; have sf1 := blk_frozen HP.out 1)
     focus try simp only []
     refine hK.out _ _ ?_ (fun hHeld => ?_)
     ·exact Z1a2
     focus (clear hK K; refine Zp1a ?_)
     refine wpAnyH_ready (rs := [11]) Z1a0 (by simp) (ac11 (fun K hK => ?_) (AllReadyH.nil))
     focus go_simp
     focus (refine (plus_no hs h1 h2 _).mono ?_; rintro e w2 ⟨rfl, hb2⟩; have HP := Lib.hid ((hb2.block _ (blk_lt HP.out)).trans HP.out); have s0 : w2.cell? ⟨w1.heap.size, 0, none⟩ = some (.int .i64 s.num) := blk_cell HP.out 0; have s1 : w2.cell? ⟨w1.heap.size, 1, none⟩ = some (.int .i64 s.den) := blk_cell HP.out 1; have sf0 := blk_frozen HP.out 0; have sf1 := blk_frozen HP.out 1)
     focus try simp only []
     refine hK.out _ _ ?_ (fun hHeld => ?_)
     ·exact Z1a2
     focus (clear hK K; refine Zp1a ?_)
     iterate 2 (first | refine tk12.go ?_ | refine tk13.go ?_)
     refine wpAnyH_ready (rs := [14]) Z1a0 (by simp) (ac14 (fun K hK => ?_) (AllReadyH.nil))
     focus go_simp
     ·exact Z1a3
     focus go_simp
     focus (refine (whole_q _ _).mono ?_; rintro e w2 ⟨rfl, hb2⟩; have HP := Lib.hid ((hb2.block _ (blk_lt HP.out)).trans HP.out); have s0 : w2.cell? ⟨w1.heap.size, 0, none⟩ = some (.int .i64 s.num) := blk_cell HP.out 0; have s1 : w2.cell? ⟨w1.heap.size, 1, none⟩ = some (.int .i64 s.den) := blk_cell HP.out 1; have sf0 := blk_frozen HP.out 0; have sf1 := blk_frozen HP.out 1)
     focus try simp only []
     refine hK.out _ _ ?_ (fun hHeld => ?_)
     ·exact Z1a2
     focus (clear hK K; refine Zp1a ?_)
     refine wpAnyH_ready (rs := [0, 7]) Z1a0 (by simp) (ac0 (fun K hK => ?_) (ac7 (fun K hK => ?_) (AllReadyH.nil)))
     focus go_simp
     refine hK.out _ _ ?_ (fun hHeld => ?_)
     ·exact Z1a1
     focus (clear hK K; refine Zp1a ?_)
     refine wpAnyH_ready (rs := [7]) Z1a0 (by simp) (ac7 (fun K hK => ?_) (AllReadyH.nil))
     focus go_simp
     focus (refine (times_ok (int_fit hci) hxf h1 _).mono ?_; rintro e w2 ⟨rfl, hb2⟩; have HP := Lib.hid ((hb2.block _ (blk_lt HP.out)).trans HP.out); have s0 : w2.cell? ⟨w1.heap.size, 0, none⟩ = some (.int .i64 s.num) := blk_cell HP.out 0; have s1 : w2.cell? ⟨w1.heap.size, 1, none⟩ = some (.int .i64 s.den) := blk_cell HP.out 1; have sf0 := blk_frozen HP.out 0; have sf1 := blk_frozen HP.out 1)
     focus try simp only []
     refine hK.out _ _ ?_ (fun hHeld => ?_)
     ·exact Z1a2
     focus (clear hK K; refine Zp1a ?_)
     iterate 2 (first | refine tk8.go ?_ | refine tk9.go ?_)
     refine wpAnyH_ready (rs := [10]) Z1a0 (by simp) (ac10 (fun K hK => ?_) (AllReadyH.nil))
     focus go_simp
     focus (refine (mustq_ok _ _).mono ?_; rintro e w2 ⟨rfl, hb2⟩; have HP := Lib.hid ((hb2.block _ (blk_lt HP.out)).trans HP.out); have s0 : w2.cell? ⟨w1.heap.size, 0, none⟩ = some (.int .i64 s.num) := blk_cell HP.out 0; have s1 : w2.cell? ⟨w1.heap.size, 1, none⟩ = some (.int .i64 s.den) := blk_cell HP.out 1; have sf0 := blk_frozen HP.out 0; have sf1 := blk_frozen HP.out 1)
     focus try simp only []
     refine hK.out _ _ ?_ (fun hHeld => ?_)
     ·exact Z1a2
     focus (clear hK K; refine Zp1a ?_)
     refine wpAnyH_ready (rs := [11]) Z1a0 (by simp) (ac11 (fun K hK => ?_) (AllReadyH.nil))
     focus go_simp
     focus (refine (plus_no hs h1 h2 _).mono ?_; rintro e w2 ⟨rfl, hb2⟩; have HP := Lib.hid ((hb2.block _ (blk_lt HP.out)).trans HP.out); have s0 : w2.cell? ⟨w1.heap.size, 0, none⟩ = some (.int .i64 s.num) := blk_cell HP.out 0; have s1 : w2.cell? ⟨w1.heap.size, 1, none⟩ = some (.int .i64 s.den) := blk_cell HP.out 1; have sf0 := blk_frozen HP.out 0; have sf1 := blk_frozen HP.out 1)
     focus try simp only []
     refine hK.out _ _ ?_ (fun hHeld => ?_)
     ·exact Z1a2
     focus (clear hK K; refine Zp1a ?_)
     iterate 2 (first | refine tk12.go ?_ | refine tk13.go ?_)
     refine wpAnyH_ready (rs := [14]) Z1a0 (by simp) (ac14 (fun K hK => ?_) (AllReadyH.nil))
     focus go_simp
     ·exact Z1a3
     focus go_simp
     focus (refine (times_ok (int_fit hci) hxf h1 _).mono ?_; rintro e w2 ⟨rfl, hb2⟩; have HP := Lib.hid ((hb2.block _ (blk_lt HP.out)).trans HP.out); have s0 : w2.cell? ⟨w1.heap.size, 0, none⟩ = some (.int .i64 s.num) := blk_cell HP.out 0; have s1 : w2.cell? ⟨w1.heap.size, 1, none⟩ = some (.int .i64 s.den) := blk_cell HP.out 1; have sf0 := blk_frozen HP.out 0; have sf1 := blk_frozen HP.out 1)
     focus try simp only []
     refine hK.out _ _ ?_ (fun hHeld => ?_)
     ·exact Z1a2
     focus (clear hK K; refine Zp1a ?_)
     iterate 2 (first | refine tk8.go ?_ | refine tk9.go ?_)
     refine wpAnyH_ready (rs := [0, 10]) Z1a0 (by simp) (ac0 (fun K hK => ?_) (ac10 (fun K hK => ?_) (AllReadyH.nil)))
     focus go_simp
     refine hK.out _ _ ?_ (fun hHeld => ?_)
     ·exact Z1a1
     focus (clear hK K; refine Zp1a ?_)
     refine wpAnyH_ready (rs := [10]) Z1a0 (by simp) (ac10 (fun K hK => ?_) (AllReadyH.nil))
     focus go_simp
     focus (refine (mustq_ok _ _).mono ?_; rintro e w2 ⟨rfl, hb2⟩; have HP := Lib.hid ((hb2.block _ (blk_lt HP.out)).trans HP.out); have s0 : w2.cell? ⟨w1.heap.size, 0, none⟩ = some (.int .i64 s.num) := blk_cell HP.out 0; have s1 : w2.cell? ⟨w1.heap.size, 1, none⟩ = some (.int .i64 s.den) := blk_cell HP.out 1; have sf0 := blk_frozen HP.out 0; have sf1 := blk_frozen HP.out 1)
     focus try simp only []
     refine hK.out _ _ ?_ (fun hHeld => ?_)
     ·exact Z1a2
     focus (clear hK K; refine Zp1a ?_)
     refine wpAnyH_ready (rs := [11]) Z1a0 (by simp) (ac11 (fun K hK => ?_) (AllReadyH.nil))
     focus go_simp
     focus (refine (plus_no hs h1 h2 _).mono ?_; rintro e w2 ⟨rfl, hb2⟩; have HP := Lib.hid ((hb2.block _ (blk_lt HP.out)).trans HP.out); have s0 : w2.cell? ⟨w1.heap.size, 0, none⟩ = some (.int .i64 s.num) := blk_cell HP.out 0; have s1 : w2.cell? ⟨w1.heap.size, 1, none⟩ = some (.int .i64 s.den) := blk_cell HP.out 1; have sf0 := blk_frozen HP.out 0; have sf1 := blk_frozen HP.out 1)
     focus try simp only []
     refine hK.out _ _ ?_ (fun hHeld => ?_)
     ·exact Z1a2
     focus (clear hK K; refine Zp1a ?_)
     iterate 2 (first | refine tk12.go ?_ | refine tk13.go ?_)
     refine wpAnyH_ready (rs := [14]) Z1a0 (by simp) (ac14 (fun K hK => ?_) (AllReadyH.nil))
     focus go_simp
     ·exact Z1a3
     focus go_simp
     focus (refine (mustq_ok _ _).mono ?_; rintro e w2 ⟨rfl, hb2⟩; have HP := Lib.hid ((hb2.block _ (blk_lt HP.out)).trans HP.out); have s0 : w2.cell? ⟨w1.heap.size, 0, none⟩ = some (.int .i64 s.num) := blk_cell HP.out 0; have s1 : w2.cell? ⟨w1.heap.size, 1, none⟩ = some (.int .i64 s.den) := blk_cell HP.out 1; have sf0 := blk_frozen HP.out 0; have sf1 := blk_frozen HP.out 1)
     focus try simp only []
     refine hK.out _ _ ?_ (fun hHeld => ?_)
     ·exact Z1a2
     focus (clear hK K; refine Zp1a ?_)
     refine wpAnyH_ready (rs := [0]) Z1a0 (by simp) (ac0 (fun K hK => ?_) (AllReadyH.nil))
     focus go_simp
     refine hK.out _ _ ?_ (fun hHeld => ?_)
     ·exact Z1a1
     focus (clear hK K; refine Zp1a ?_)
     refine wpAnyH_ready (rs := [11]) Z1a0 (by simp) (ac11 (fun K hK => ?_) (AllReadyH.nil))
     focus go_simp
     focus (refine (plus_no hs h1 h2 _).mono ?_; rintro e w2 ⟨rfl, hb2⟩; have HP := Lib.hid ((hb2.block _ (blk_lt HP.out)).trans HP.out); have s0 : w2.cell? ⟨w1.heap.size, 0, none⟩ = some (.int .i64 s.num) := blk_cell HP.out 0; have s1 : w2.cell? ⟨w1.heap.size, 1, none⟩ = some (.int .i64 s.den) := blk_cell HP.out 1; have sf0 := blk_frozen HP.out 0; have sf1 := blk_frozen HP.out 1)
     focus try simp only []
     refine hK.out _ _ ?_ (fun hHeld => ?_)
     ·exact Z1a2
     focus (clear hK K; refine Zp1a ?_)
     iterate 2 (first | refine tk12.go ?_ | refine tk13.go ?_)
     refine wpAnyH_ready (rs := [14]) Z1a0 (by simp) (ac14 (fun K hK => ?_) (AllReadyH.nil))
     focus go_simp
     ·exact Z1a3
   ·rw [okQ, if_neg h1, Option.bind_none] at hL
    obtain rfl : r = none := hL.symm
    clear hL
    go_wp2_with fail
    refine wp_region_held_drew (S := (fun w' => w'.cell? (aq.add (j * 2)) = some (.int .i64 xj.num) ∧ w'.cell? ⟨(aq.add (j * 2)).block, (aq.add (j * 2)).off + 1, none⟩ = some (.int .i64 xj.den) ∧ Below w.heap.size w w')) Z1a0 ?_ (fun hHeld => ?_)
    ·exact Z1a1
    iterate 5 (first | refine tk1.go ?_ | refine tk3.go ?_ | refine tk4.go ?_ | refine tk5.go ?_ | refine tk6.go ?_)
    refine wpAnyH_ready (rs := [0, 2]) Z1a0 (by simp) (ac0 (fun K hK => ?_) (ac2 (fun K hK => ?_) (AllReadyH.nil)))
    focus go_simp
    refine hK.out _ _ ?_ (fun hHeld => ?_)
    ·exact Z1a1
    focus (clear hK K; refine Zp1a ?_)
    refine wpAnyH_ready (rs := [2]) Z1a0 (by simp) (ac2 (fun K hK => ?_) (AllReadyH.nil))
    focus go_simp
    focus (refine (whole_q _ _).mono ?_; rintro e w2 ⟨rfl, hb2⟩; have HP := Lib.hid ((hb2.block _ (blk_lt HP.out)).trans HP.out); have s0 : w2.cell? ⟨w1.heap.size, 0, none⟩ = some (.int .i64 s.num) := blk_cell HP.out 0; have s1 : w2.cell? ⟨w1.heap.size, 1, none⟩ = some (.int .i64 s.den) := blk_cell HP.out 1; have sf0 := blk_frozen HP.out 0; have sf1 := blk_frozen HP.out 1)
    focus try simp only []
    refine hK.out _ _ ?_ (fun hHeld => ?_)
    ·exact Z1a2
    focus (clear hK K; refine Zp1a ?_)
    refine wpAnyH_ready (rs := [7]) Z1a0 (by simp) (ac7 (fun K hK => ?_) (AllReadyH.nil))
    focus go_simp
    focus (refine (times_no (int_fit hci) hxf h1 _).mono ?_; rintro e w2 ⟨rfl, hb2⟩; have HP := Lib.hid ((hb2.block _ (blk_lt HP.out)).trans HP.out); have s0 : w2.cell? ⟨w1.heap.size, 0, none⟩ = some (.int .i64 s.num) := blk_cell HP.out 0; have s1 : w2.cell? ⟨w1.heap.size, 1, none⟩ = some (.int .i64 s.den) := blk_cell HP.out 1; have sf0 := blk_frozen HP.out 0; have sf1 := blk_frozen HP.out 1)
    focus try simp only []
    refine hK.out _ _ ?_ (fun hHeld => ?_)
    ·exact Z1a2
    focus (clear hK K; refine Zp1a ?_)
    iterate 2 (first | refine tk8.go ?_ | refine tk9.go ?_)
    refine wpAnyH_ready (rs := [10]) Z1a0 (by simp) (ac10 (fun K hK => ?_) (AllReadyH.nil))
    focus go_simp
    ·exact Z1a3
    focus go_simp
    focus (refine (whole_q _ _).mono ?_; rintro e w2 ⟨rfl, hb2⟩; have HP := Lib.hid ((hb2.block _ (blk_lt HP.out)).trans HP.out); have s0 : w2.cell? ⟨w1.heap.size, 0, none⟩ = some (.int .i64 s.num) := blk_cell HP.out 0; have s1 : w2.cell? ⟨w1.heap.size, 1, none⟩ = some (.int .i64 s.den) := blk_cell HP.out 1; have sf0 := blk_frozen HP.out 0; have sf1 := blk_frozen HP.out 1)
    focus try simp only []
    refine hK.out _ _ ?_ (fun hHeld => ?_)
    ·exact Z1a2
    focus (clear hK K; refine Zp1a ?_)
    refine wpAnyH_ready (rs := [0, 7]) Z1a0 (by simp) (ac0 (fun K hK => ?_) (ac7 (fun K hK => ?_) (AllReadyH.nil)))
    focus go_simp
    refine hK.out _ _ ?_ (fun hHeld => ?_)
    ·exact Z1a1
    focus (clear hK K; refine Zp1a ?_)
    refine wpAnyH_ready (rs := [7]) Z1a0 (by simp) (ac7 (fun K hK => ?_) (AllReadyH.nil))
    focus go_simp
    focus (refine (times_no (int_fit hci) hxf h1 _).mono ?_; rintro e w2 ⟨rfl, hb2⟩; have HP := Lib.hid ((hb2.block _ (blk_lt HP.out)).trans HP.out); have s0 : w2.cell? ⟨w1.heap.size, 0, none⟩ = some (.int .i64 s.num) := blk_cell HP.out 0; have s1 : w2.cell? ⟨w1.heap.size, 1, none⟩ = some (.int .i64 s.den) := blk_cell HP.out 1; have sf0 := blk_frozen HP.out 0; have sf1 := blk_frozen HP.out 1)
    focus try simp only []
    refine hK.out _ _ ?_ (fun hHeld => ?_)
    ·exact Z1a2
    focus (clear hK K; refine Zp1a ?_)
    iterate 2 (first | refine tk8.go ?_ | refine tk9.go ?_)
    refine wpAnyH_ready (rs := [10]) Z1a0 (by simp) (ac10 (fun K hK => ?_) (AllReadyH.nil))
    focus go_simp
    ·exact Z1a3
    focus go_simp
    focus (refine (times_no (int_fit hci) hxf h1 _).mono ?_; rintro e w2 ⟨rfl, hb2⟩; have HP := Lib.hid ((hb2.block _ (blk_lt HP.out)).trans HP.out); have s0 : w2.cell? ⟨w1.heap.size, 0, none⟩ = some (.int .i64 s.num) := blk_cell HP.out 0; have s1 : w2.cell? ⟨w1.heap.size, 1, none⟩ = some (.int .i64 s.den) := blk_cell HP.out 1; have sf0 := blk_frozen HP.out 0; have sf1 := blk_frozen HP.out 1)
    focus try simp only []
    refine hK.out _ _ ?_ (fun hHeld => ?_)
    ·exact Z1a2
    focus (clear hK K; refine Zp1a ?_)
    iterate 2 (first | refine tk8.go ?_ | refine tk9.go ?_)
    refine wpAnyH_ready (rs := [0, 10]) Z1a0 (by simp) (ac0 (fun K hK => ?_) (ac10 (fun K hK => ?_) (AllReadyH.nil)))
    focus go_simp
    refine hK.out _ _ ?_ (fun hHeld => ?_)
    ·exact Z1a1
    focus (clear hK K; refine Zp1a ?_)
    refine wpAnyH_ready (rs := [10]) Z1a0 (by simp) (ac10 (fun K hK => ?_) (AllReadyH.nil))
    focus go_simp
    ·exact Z1a3
    focus go_simp
    ·exact Z1a3
  ·have hjj : j = l.length := by omega
   subst hjj
   rw [List.drop_length, show xs.drop l.length = [] by rw [HL.out, List.drop_length], show holdF [] [] s = some s from rfl] at hL
   obtain rfl : r = some s := hL.symm
   have s0 : wr.cell? ⟨w1.heap.size, 0, none⟩ = some (.int .i64 s.num) := blk_cell hP 0
   have s1 : wr.cell? ⟨w1.heap.size, 1, none⟩ = some (.int .i64 s.den) := blk_cell hP 1
   have HBR := Lib.hid hbr
   clear hL hP hbr
   go_wp2_with fail
   refine (sign_q s _).mono ?_
   rintro e w2 ⟨rfl, hb2⟩
   go_wp2
   go_ret
   exact ⟨congrArg (fun b => Ending.returned (.bool b)) (sg_le s), HBR.out.trans (hb2.mono HBR.out.size)⟩
end Go.Proofs.Ytmcfcmijopbinaa.Ln
end
