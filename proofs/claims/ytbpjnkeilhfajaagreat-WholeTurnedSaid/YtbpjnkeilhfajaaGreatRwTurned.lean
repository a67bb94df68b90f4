/- WholeTurned, walked. -/
import Derived.Test.YtbpjnkeilhfajaaGreatTl
import Derived.Test.YtbpjnkeilhfajaaGreatWnSh
import Derived.Test.YtbpjnkeilhfajaaGreatRwF12
namespace Go.Proofs
theorem Zpp1 {p q : Prop} (hq : q) (h : p = q := by first | (simp only [Act.put, List.setIfInBounds_toArray, List.set_cons_zero, List.set_cons_succ]; done) | (simp only [Act.put, List.setIfInBounds_toArray, List.set_cons_zero, List.set_cons_succ]; rfl) | rfl) : p := Eq.mpr h hq
theorem Zp10 {p : Prop} (h : p := by kernel_rfl) : p := h
theorem Zp11 {p : Prop} (h : p := by intro w_; go_simp; done) : p := h
theorem Zp12 {p : Prop} (h : p := by have := HR9.out.1; have := HN.out.1; simp; omega) : p := h
theorem Zp13 {p : Prop} (h : p := by obtain ⟨A, c, e, _⟩ := rowI_read HI3.out; exact ⟨A, _, c, e⟩) : p := h
theorem Zp14 {p : Prop} (h : p := by exact hHeld.grownC HCe.out hg3 (fun k h => rowI_blk HI0.out h)) : p := h
end Go.Proofs
namespace Go.Proofs.YtbpjnkeilhfajaaGreat.Rw
open Go.RowKit Go.Proofs.YtbpjnkeilhfajaaGreat.Given Go.Proofs.YtbpjnkeilhfajaaGreatW.PrintWords Go.Proofs.YtbpjnkeilhfajaaGreatW.PrintLast Go.Proofs.YtbpjnkeilhfajaaGreat.Num Go.Proofs.YtbpjnkeilhfajaaGreat.Ln Go.Proofs.YtbpjnkeilhfajaaGreat.Lin
set_option linter.unusedVariables false
set_option linter.unusedSimpArgs false
def turnS (r : S40) : S40 := ⟨r.f0.set 0 (-(r.f0.getD 0 0)), r.f1⟩
theorem turnS_z (L : List S40) : (L.map toZ).reverse.map turnZ = (L.reverse.map turnS).map toZ := by
 rw [← List.map_reverse, List.map_map, List.map_map]
 rfl
theorem shareT {Goal : Prop} {Φ : Nat → Option Addr → Nat → Nat → Nat → World → Prop} (Facts : Option Addr → Nat → Nat → Nat → World → Prop) (h1 : (∀ g A n c k w, Facts A n c k w → Φ g A n c k w) → Goal) (h2 : ∀ g A n c k w, Facts A n c k w → Φ g A n c k w) : Goal := h1 h2
theorem hp_grownT {w w1 : World} {g : Nat} {o : Obj} {row : Option Nat} (h : Hid (w.heap[g]? = some o ∧ g < w.heap.size)) (hg : w.grownBy w1 row) (hne : row ≠ some g) : Hid (w1.heap[g]? = some o ∧ g < w1.heap.size) := by
 have := (hg.block g h.out.2 (fun e => hne e.symm)).trans h.out.1
 exact Lib.hid ⟨this, blk_lt this⟩
theorem hpR_grown {w w1 : World} {g base : Nat} {cs : Array Value} {v : Value} {l : List Int} (h : Hid (w.heap[g]? = some (.cells cs 40 (0, 0)) ∧ g < w.heap.size)) (hI : RowI w base v l) (hg : w.grownBy w1 v.ownBlock) : Hid (w1.heap[g]? = some (.cells cs 40 (0, 0)) ∧ g < w1.heap.size) :=
 hp_grownT h hg (fun e => by
  obtain ⟨c, hc, _⟩ := own_blk_ty hI e
  exact blk_ne hc h.out.1 (by decide) rfl)
theorem rowI_neR {w : World} {base g i : Nat} {v : Value} {l : List Int} {cs : Array Value} (hI : RowI w base v l) (h : w.heap[g]? = some (.cells cs 40 (0, 0))) (u : Value) : RowI (w.setCell ⟨g, i, none⟩ u) base v l :=
 rowI_ne hI (fun e => by
  obtain ⟨c, hc, _⟩ := own_blk_ty hI e
  exact blk_ne hc h (by decide) rfl) u
set_option maxHeartbeats 16000000 in
set_option maxRecDepth 100000 in
theorem whturned_any (l : List S40) (A : Option Addr) (c : Nat) (v : Int) (w : World) (hC : Kd.C k40 w A l.length l) :
  Calls Tryz.prog 12 #[.slice A l.length c, .int .i64 v] w fun e w' => e = .returned (.bool true) ∧ Below w.heap.size w w' := by
 obtain ⟨m, hm, -⟩ := and64k v
 obtain ⟨n0, hn0⟩ : ∃ n, m % 3 = n := ⟨_, rfl⟩
 have hv : Int.tmod (Go.bits .and .i64 v 65535) 3 = (n0 : Int) := by rw [← hn0]; exact hm 3 (by decide)
 obtain ⟨n, hn⟩ : ∃ n, 1 + n0 = n := ⟨_, rfl⟩
 have hv2 : wrap64 (1 + (n0 : Int)) = (n : Int) := by unfold wrap64; omega
 have hn3 : n ≤ 3 := by omega
 have HN := Lib.hid (And.intro hn3 (show 1 ≤ n by omega))
 have HC := Lib.hid hC
 obtain ⟨S, hS⟩ : ∃ S, smallL 3 n l = S := ⟨_, rfl⟩
 have hS9 : S.length ≤ 3 ∧ ∀ r, r ∈ S → Small9 n r := by rw [← hS]; exact small_s9
 obtain ⟨L, hL⟩ : ∃ L, boxL n n ++ S = L := ⟨_, rfl⟩
 obtain ⟨hbz, hb9⟩ := box_z hn3
 have hl9 : ∀ r, r ∈ L → Small9 n r := by
  intro r hr
  rw [← hL] at hr
  rcases List.mem_append.1 hr with h | h
  ·exact hb9 r h
  ·exact hS9.2 r h
 have hll : L.length ≤ 9 := by rw [← hL, List.length_append, boxL_len]; have := hS9.1; omega
 obtain ⟨M, hM⟩ : ∃ M, L.reverse.map turnS = M := ⟨_, rfl⟩
 obtain ⟨a, p, ha⟩ : ∃ a p, wsolve (L.map toZ) n 1000 (chkW (L.map toZ)) = (a, p) := ⟨_, _, rfl⟩
 obtain ⟨b, q, hb⟩ : ∃ b q, wsolve (M.map toZ) n 1000 (chkW (M.map toZ)) = (b, q) := ⟨_, _, rfl⟩
 have hlaw := turned_law hn3 (s9_z hS9.2) (by rw [List.length_map]; exact hS9.1) (m := M.map toZ) (by rw [← hbz, ← List.map_append, hL, turnS_z, hM]) (a := (a, p)) (b := (b, q)) (by rw [← hbz, ← List.map_append, hL]; exact ha) hb
 have hm9 : ∀ r, r ∈ M → Small9 n r := by
  intro r hr
  rw [← hM] at hr
  obtain ⟨s, hs, rfl⟩ := List.mem_map.1 hr
  have h := hl9 s (List.mem_reverse.1 hs)
  refine ⟨by show (s.f0.set 0 _).length = n; rw [List.length_set]; exact h.1, fun x hx => ?_, h.2.2⟩
  rcases List.mem_or_eq_of_mem_set hx with h1 | h1
  ·exact h.2.1 x h1
  ·rw [h1, Int.natAbs_neg, List.getD_eq_getElem?_getD]
   cases hr0 : s.f0 with
   | nil => simp
   | cons y ys => exact h.2.1 y (by rw [hr0]; simp)
 have HS9 := Lib.hid hS9
 have HL9 := Lib.hid (And.intro hl9 hll)
 have HM9 := Lib.hid (And.intro hm9 (show M.length ≤ 9 by rw [← hM, List.length_map, List.length_reverse]; exact hll))
 have HLL := Lib.hid hL
 have HSS := Lib.hid hS
 have HMM := Lib.hid hM
 have HA := Lib.hid ha
 have HBB := Lib.hid hb
 have HLAW := Lib.hid hlaw
 clear hC hn hn0 hm hS hS9 hL hbz hb9 hl9 hll hlaw hn3 hM ha hb hm9
 go_enter Tryz.func12, Tryz.ntmps12
 go_wp2_with fail
 refine (wshown_any _).mono ?_
 rintro e w1 ⟨rfl, hb1⟩
 go_wp2_with fail
 refine (box12_any n w1 HN.out.1).mono ?_
 rintro e w2 ⟨vb, raws, rfl, hO, hb2⟩
 have HB2 := Lib.hid (hb1.trans (hb2.mono hb1.size))
 have HO := Lib.hid hO
 have hz2 := And.intro hb1.size hb2.size
 clear hO hb1 hb2
 go_wp2_with fail
 refine (small12_any l A c n w2 (Kd.C_below HC.out HB2.out) HN.out.1).mono ?_
 rintro e w3 ⟨vs, news, rfl, hO3, hb3⟩
 rw [HSS.out] at hO3
 obtain ⟨A3, c3, rfl, -, -⟩ := hO3.read (by have := HS9.out.1; omega)
 have HB3 := Lib.hid (HB2.out.trans (hb3.mono HB2.out.size))
 have HO3 := Lib.hid hO3
 have HOb := Lib.hid (HO.out.below hb3)
 have HZ := Lib.hid (And.intro hz2.1 (Nat.le_trans hz2.2 hb3.size))
 clear hO3 hb3 HO hz2
 go_wp2_with (at_builtin; refine wpList_appRead rfl (.tmp 20) (.tmp 23) rfl w1.heap.size _ (boxL n n) S raws news A3 S.length c3 rfl rfl HOb.out rfl HO3.out.raw.2 HO3.out.enc ?hl HZ.out.2 ?_; (case hl => rw [boxL_len]; have := HS9.out.1; have := HN.out.1; omega); intro v4 w4 HO4 HB4; obtain ⟨A4, c4, rfl, hc4, hC4⟩ := HO4.out.read (by rw [HLL.out]; have := HL9.out.2; omega); rw [HLL.out] at hc4 hC4 ⊢; have HC4 := Lib.hid hC4; have HC4c := Lib.hid hc4; clear hc4 hC4)
 have HB5 := Lib.hid (HB3.out.trans (HB4.out.mono HZ.out.1))
 obtain ⟨w0, hw0⟩ : ∃ w0, w0 = w4 := ⟨_, rfl⟩
 subst hw0
 have hi0 : ∃ i0 : Int, wrap64 ((L.length : Int) - 1) = i0 ∧ i0 = ((L.length : Nat) : Int) - 1 := ⟨_, rfl, by have := HL9.out.2; unfold wrap64; omega⟩
 obtain ⟨i0, hi0, hi1⟩ := hi0
 go_loopw [7, 8] (fun v7 v8 wr => ∃ (j : Nat) (i : Int) (raws : List Value), j ≤ L.length ∧ i = (j : Int) - 1 ∧ v8 = .int .i64 i ∧ Hid (RowsO wr w0.heap.size v7 ((L.drop j).reverse.map turnS) raws) ∧ Hid (Below w0.heap.size w0 wr)) (fun _ v8 _ => ((intOf v8) + 1).toNat)
 case atStart => exact ⟨L.length, i0, [], Nat.le_refl _, hi1, congrArg (Value.int .i64) hi0, Lib.hid (by rw [List.drop_length]; exact RowsO.nil), Lib.hid (Below.refl _ _)⟩
 case round =>
  clear hi0 hi1
  obtain ⟨j, i, raws, hj, hi, rfl, HO, HB⟩ := hrel
  by_cases h0 : i ≥ 0
  ·have e1 := eq_true h0
   obtain ⟨j, rfl⟩ : ∃ k, j = k + 1 := ⟨j - 1, by omega⟩
   obtain rfl : i = (j : Int) := by omega
   have hjl : j < L.length := by omega
   have e2 : (j < L.length) = True := eq_true hjl
   obtain ⟨ad, A0, c0, rfl, z0, z1, hc0, hrow⟩ := row_at (Kd.C_below HC4.out HB.out) hjl
   have hr9 := HL9.out.1 _ (List.getElem_mem hjl)
   have HT := Lib.hid (show (L.drop j).reverse.map turnS = (L.drop (j + 1)).reverse.map turnS ++ [turnS L[j]] by rw [List.drop_eq_getElem_cons hjl, List.reverse_cons, List.map_append]; rfl)
   obtain ⟨r, hr⟩ : ∃ r, L[j] = r := ⟨_, rfl⟩
   rw [hr] at z0 z1 hrow HT hc0 hr9
   have HR9 := Lib.hid hr9
   have HROW := Lib.hid hrow
   have HJ := Lib.hid hjl
   have hw1 : wrap64 ((j : Int) - 1) = (j : Int) - 1 := by have := HL9.out.2; unfold wrap64; omega
   have HW1 := Lib.hid hw1
   have HOl : ((L.drop (j + 1)).reverse.map turnS).length + 1 < 1000000 := by rw [List.length_map, List.length_reverse, List.length_drop]; have := HL9.out.2; omega
   have HOL := Lib.hid HOl
   have HCe := Lib.hid (show Cells [(ad.add (j * 2), .slice A0 r.f0.length c0), (⟨(ad.add (j * 2)).block, (ad.add (j * 2)).off + 1, none⟩, .int .i64 r.f1)] wr from ⟨z0, z1, trivial⟩)
   have HD := Lib.hid (show Below wr.heap.size wr wr.drew from (Below.refl _ _).drew)
   clear h0 hj hi hjl hr hc0 hrow hr9 hw1 HOl z0 z1
   go_wp2_with fail
   apply shareT (fun A3 n3 c3 g9 w' => RowI w' wr.heap.size (.slice A3 n3 c3) r.f0 ∧ Hid (w'.heap[g9]? = some (.cells #[.slice none 0 0, .int .i64 0] 40 (0, 0)) ∧ g9 < w'.heap.size) ∧ wr.heap.size ≤ g9 ∧ Below wr.heap.size wr w')
   ·intro hΦ
    have HΦ := Lib.hid hΦ
    clear hΦ
    refine wp_region_L 14 (Hd _ wr wr.heap.size) Zp10 (⟨Nat.le_refl _, HCe.out.keep (Below.refl _ _).drew, (Below.refl _ _).drew⟩) (fun hHeld => ?_)
    refine tl1.go ?_
    refine tl2.go ?_
    refine tl3.go ?_
    refine tl4.go ?_
    refine tl5.go ?_
    refine tl7.go ?_
    refine tl8.go ?_
    refine tl9.go ?_
    refine tl10.go ?_
    refine tl11.go ?_
    refine wpAnyL_ready (rs := [0, 13]) Zp10 (by simp) (al0 (fun K hK => ?_) (al13 (fun K hK => ?_) (AllReadyL.nil)))
    focus (refine sl_newh (.cells #[] 2) 0 Zp10 Zp11 (fun g0_ w2 hg_ hb2 HP0 => ?_); have HG0 := Lib.hid (Nat.le_trans HD.out.size (Nat.le_of_eq hg_.out.symm)); have HD := Lib.hid (HD.out.trans (hb2.mono HD.out.size)); have HI0 := Lib.hid (rowI_empty HP0 HG0.out); (try have HP9 := hp_keep HP9 hb2))
    refine hK.out _ _ (fun _ => ?_) (fun hHeld => ?_)
    ·exact hHeld.keep hb2
    focus (have hHeld := hHeld (by decide); clear hK K; refine Zpp1 ?_)
    refine wpAnyL_ready (rs := [6, 13]) Zp10 (by simp) (al6 (fun K hK => ?_) (al13 (fun K hK => ?_) (AllReadyL.nil)))
    focus (refine stepI rfl (.tmp 32) (.tmp 37) rfl wr.heap.size _ [] rfl HI0.out A0 r.f0.length c0 r.f0 rfl rfl (Kd.C_below HROW.out HD.out) Zp12 HD.out.size ?_; intro v3 w3_ HI3 HB3_ hg3; obtain ⟨A3_, n3_, c3_, rfl⟩ : ∃ A n c, v3 = .slice A n c := Zp13; have HD := Lib.hid (HD.out.trans HB3_.out); (try have HP9 := hpR_grown HP9 HI0.out hg3))
    refine hK.out _ _ (fun _ => ?_) (fun hHeld => ?_)
    ·exact Zp14
    focus (have hHeld := hHeld (by decide); clear hK K; refine Zpp1 ?_)
    refine tl12.go ?_
    refine wpAnyL_ready (rs := [13]) Zp10 (by simp) (al13 (fun K hK => ?_) (AllReadyL.nil))
    focus (refine al_newh (.cells #[.slice none 0 0, .int .i64 0] 40) Zp10 Zp11 (fun g9_ w2 hg9_ hb2 HP9 => ?_); have HG9 := Lib.hid (Nat.le_trans HD.out.size (Nat.le_of_eq hg9_.out.symm)); have HD := Lib.hid (HD.out.trans (hb2.mono HD.out.size)); (try have HI0 := ri_keep HI0 hb2); (try have HI3 := ri_keep HI3 hb2))
    refine hK.out _ _ (fun _ => ?_) (fun hHeld => ?_)
    ·exact hHeld.keep hb2
    focus (have hHeld := hHeld (by decide); clear hK K; refine Zpp1 ?_)
    refine wpAnyL_ready (rs := [14]) Zp10 (by simp) (al14 (fun K hK => ?_) (AllReadyL.nil))
    focus (obtain ⟨y0, y1, y2, y3⟩ := box2 HP9; go_simp)
    refine hK.out _ _ (fun h => absurd rfl h) (fun _ => ?_)
    focus (clear hK K; refine Zpp1 ?_)
    refine wpAnyL_done Zp10 ?_ _; rotate_left 1
    focus (refine al_newh (.cells #[.slice none 0 0, .int .i64 0] 40) Zp10 Zp11 (fun g9_ w2 hg9_ hb2 HP9 => ?_); have HG9 := Lib.hid (Nat.le_trans HD.out.size (Nat.le_of_eq hg9_.out.symm)); have HD := Lib.hid (HD.out.trans (hb2.mono HD.out.size)); (try have HI0 := ri_keep HI0 hb2); (try have HI3 := ri_keep HI3 hb2))
    refine hK.out _ _ (fun _ => ?_) (fun hHeld => ?_)
    ·exact hHeld.keep hb2
    focus (have hHeld := hHeld (by decide); clear hK K; refine Zpp1 ?_)
    refine wpAnyL_ready (rs := [6]) Zp10 (by simp) (al6 (fun K hK => ?_) (AllReadyL.nil))
    focus (refine stepI rfl (.tmp 32) (.tmp 37) rfl wr.heap.size _ [] rfl HI0.out A0 r.f0.length c0 r.f0 rfl rfl (Kd.C_below HROW.out HD.out) Zp12 HD.out.size ?_; intro v3 w3_ HI3 HB3_ hg3; obtain ⟨A3_, n3_, c3_, rfl⟩ : ∃ A n c, v3 = .slice A n c := Zp13; have HD := Lib.hid (HD.out.trans HB3_.out); (try have HP9 := hpR_grown HP9 HI0.out hg3))
    refine hK.out _ _ (fun _ => ?_) (fun hHeld => ?_)
    ·exact Zp14
    focus (have hHeld := hHeld (by decide); clear hK K; refine Zpp1 ?_)
    refine tl12.go ?_
    refine wpAnyL_ready (rs := [14]) Zp10 (by simp) (al14 (fun K hK => ?_) (AllReadyL.nil))
    focus (obtain ⟨y0, y1, y2, y3⟩ := box2 HP9; go_simp)
    refine hK.out _ _ (fun h => absurd rfl h) (fun _ => ?_)
    focus (clear hK K; refine Zpp1 ?_)
    refine wpAnyL_done Zp10 ?_ _; rotate_left 1
    focus (refine al_newh (.cells #[.slice none 0 0, .int .i64 0] 40) Zp10 Zp11 (fun g9_ w2 hg9_ hb2 HP9 => ?_); have HG9 := Lib.hid (Nat.le_trans HD.out.size (Nat.le_of_eq hg9_.out.symm)); have HD := Lib.hid (HD.out.trans (hb2.mono HD.out.size)); (try have HI0 := ri_keep HI0 hb2); (try have HI3 := ri_keep HI3 hb2))
    refine hK.out _ _ (fun _ => ?_) (fun hHeld => ?_)
    ·exact hHeld.keep hb2
    focus (have hHeld := hHeld (by decide); clear hK K; refine Zpp1 ?_)
    refine wpAnyL_ready (rs := [0]) Zp10 (by simp) (al0 (fun K hK => ?_) (AllReadyL.nil))
    focus (refine sl_newh (.cells #[] 2) 0 Zp10 Zp11 (fun g0_ w2 hg_ hb2 HP0 => ?_); have HG0 := Lib.hid (Nat.le_trans HD.out.size (Nat.le_of_eq hg_.out.symm)); have HD := Lib.hid (HD.out.trans (hb2.mono HD.out.size)); have HI0 := Lib.hid (rowI_empty HP0 HG0.out); (try have HP9 := hp_keep HP9 hb2))
    refine hK.out _ _ (fun _ => ?_) (fun hHeld => ?_)
    ·exact hHeld.keep hb2
    focus (have hHeld := hHeld (by decide); clear hK K; refine Zpp1 ?_)
    refine wpAnyL_ready (rs := [6]) Zp10 (by simp) (al6 (fun K hK => ?_) (AllReadyL.nil))
    focus (refine stepI rfl (.tmp 32) (.tmp 37) rfl wr.heap.size _ [] rfl HI0.out A0 r.f0.length c0 r.f0 rfl rfl (Kd.C_below HROW.out HD.out) Zp12 HD.out.size ?_; intro v3 w3_ HI3 HB3_ hg3; obtain ⟨A3_, n3_, c3_, rfl⟩ : ∃ A n c, v3 = .slice A n c := Zp13; have HD := Lib.hid (HD.out.trans HB3_.out); (try have HP9 := hpR_grown HP9 HI0.out hg3))
    refine hK.out _ _ (fun _ => ?_) (fun hHeld => ?_)
    ·exact Zp14
    focus (have hHeld := hHeld (by decide); clear hK K; refine Zpp1 ?_)
    refine tl12.go ?_
    refine wpAnyL_ready (rs := [14]) Zp10 (by simp) (al14 (fun K hK => ?_) (AllReadyL.nil))
    focus (obtain ⟨y0, y1, y2, y3⟩ := box2 HP9; go_simp)
    refine hK.out _ _ (fun h => absurd rfl h) (fun _ => ?_)
    focus (clear hK K; refine Zpp1 ?_)
    refine wpAnyL_done Zp10 ?_ _; rotate_left 1
    all_goals first | exact HΦ.out g0_ A3_ n3_ c3_ g9_ w2 ⟨HI3.out, HP9, HG9.out, HD.out⟩ | exact HΦ.out g0_ A3_ n3_ c3_ g9_ w3_ ⟨HI3.out, HP9, HG9.out, HD.out⟩
   ·intro g0 A3 n3 c3 g9 w5 hf
    obtain ⟨hI, hP, hg, hB⟩ := hf
    have hn0 : 0 < n3 := by
     have h1 := hI.1
     obtain ⟨_, _, e, _⟩ := rowI_read hI
     injection e with _ e2 _
     rw [e2, HR9.out.1]; exact HN.out.2
    obtain ⟨g3, rfl⟩ : ∃ g3, A3 = some ⟨g3, 0, none⟩ := by
     obtain ⟨_, hv⟩ := hI
     rcases hv with ⟨e, h0⟩ | ⟨g, cap, cur, e, _⟩
     ·rw [HR9.out.1] at h0; have := HN.out.2; omega
     ·injection e with e1 _ _
      exact ⟨g, e1⟩
    have hX : BxR ((w5.setCell ⟨g9, 0, none⟩ (.slice (some ⟨g3, 0, none⟩) n3 c3)).setCell ⟨g9, 1, none⟩ (.int .i64 r.f1)) g9 (.slice (some ⟨g3, 0, none⟩) n3 c3) (.int .i64 r.f1) := blk_put (blk_put hP.out.1 0 _ rfl) 1 _ rfl
    have hI2 := rowI_neR (rowI_neR hI hP.out.1 (i := 0) (.slice (some ⟨g3, 0, none⟩) n3 c3)) (blk_put hP.out.1 0 (.slice (some ⟨g3, 0, none⟩) n3 c3) rfl) (i := 1) (.int .i64 r.f1)
    have hB2 := (hB.setCell (p := ⟨g9, 0, none⟩) hg (.slice (some ⟨g3, 0, none⟩) n3 c3)).setCell (p := ⟨g9, 1, none⟩) hg (.int .i64 r.f1)
    generalize (w5.setCell ⟨g9, 0, none⟩ (.slice (some ⟨g3, 0, none⟩) n3 c3)).setCell ⟨g9, 1, none⟩ (.int .i64 r.f1) = w6 at hX hI2 hB2 ⊢
    obtain ⟨x, hx, hxf, hgb, -⟩ := rowI_cell hI2 hn0
    have hx9 : x = r.f0.getD 0 0 ∧ x.natAbs ≤ 9 := by
     obtain ⟨_, _, e, hCx⟩ := rowI_read hI2
     injection e with e1 e2 e3
     subst e1
     obtain ⟨ad', ea, q⟩ := i64_at hCx (i := 0) (by omega)
     cases ea
     rw [Addr.add_lit, Nat.zero_add, hx] at q
     have e0 : r.f0.getD 0 0 = r.f0[0]'(by omega) := by rw [List.getD_eq_getElem?_getD, List.getElem?_eq_getElem (by omega)]; rfl
     have e9 := Option.some.inj q
     injection e9 with _ e9
     rw [e0, e9]
     exact ⟨rfl, HR9.out.2.1 _ (List.getElem_mem _)⟩
    have hwx : IntKind.i64.wrap (-x) = -x := by rw [i64_w]; have := hx9.2; unfold wrap64; omega
    have HWX := Lib.hid hwx
    have HX := Lib.hid hX
    have HI2 := Lib.hid hI2
    have HB2 := Lib.hid hB2
    have HX9 := Lib.hid hx9.1
    have HCf := Lib.hid (show Cells [(⟨g9, 0, none⟩, .slice (some ⟨g3, 0, none⟩) n3 c3), (⟨g3, 0, none⟩, .int .i64 x)] w6 from ⟨hX.cells.1, hx, trivial⟩)
    have HGB := Lib.hid (And.intro hg hgb)
    have b1 : (0 < n3) = True := eq_true hn0
    clear hI hP hg hB hX hI2 hB2 hx hx9 hn0 hwx hgb
    go_wp2_with fail
    obtain hwx := HWX.out
    refine wp_region_L 8 (Hd _ w6 w6.heap.size) Zp10 (⟨Nat.le_refl _, HCf.out.keep (Below.refl _ _).drew, (Below.refl _ _).drew⟩) (fun hHeld => ?_)
    refine tl0.go ?_
    refine tl1.go ?_
    refine tl2.go ?_
    refine tl3.go ?_
    refine tl4.go ?_
    refine tl5.go ?_
    refine tl6.go ?_
    refine tl7.go ?_
    refine wpAnyL_ready (rs := [8]) Zp10 (by simp) (al8 (fun K hK => ?_) (AllReadyL.nil))
    focus (have x5 := HCf.out.2.1; go_simp)
    refine hK.out _ _ (fun h => absurd rfl h) (fun _ => ?_)
    focus (clear hK K; refine Zpp1 ?_)
    refine wpAnyL_done Zp10 ?_ _; rotate_left 1
    have HI4 := Lib.hid (show RowI ((w6.setCell ⟨g3, 0, none⟩ (.int .i64 (-x))).drew) wr.heap.size (.slice (some ⟨g3, 0, none⟩) n3 c3) (r.f0.set 0 (-x)) from (rowI_set HI2.out 0 (-x)))
    have HX7 := Lib.hid (show BxR ((w6.setCell ⟨g3, 0, none⟩ (.int .i64 (-x))).drew) g9 (.slice (some ⟨g3, 0, none⟩) n3 c3) (.int .i64 r.f1) from HX.out.far (fun e => by
     subst e
     obtain ⟨c, hc, _⟩ := own_blk_ty HI2.out rfl
     exact blk_ne hc HX.out (by decide) rfl))
    have HB7 := Lib.hid (show Below wr.heap.size wr ((w6.setCell ⟨g3, 0, none⟩ (.int .i64 (-x))).drew) from (HB2.out.setCell HGB.out.2 _).drew)
    clear hwx x5 hHeld HI2 HX HB2 HCf
    generalize (w6.setCell ⟨g3, 0, none⟩ (.int .i64 (-x))).drew = w7 at HI4 HX7 HB7 ⊢
    obtain ⟨y0, y1, y2, y3, y4⟩ := HX7.out.cells
    have HO7 := Lib.hid (HO.out.below HB7.out)
    have HZ7 := Lib.hid (Nat.le_trans HB.out.size HB7.out.size)
    have hTS : turnS r = ⟨r.f0.set 0 (-x), r.f1⟩ := by rw [HX9.out]; rfl
    have HTS := Lib.hid hTS
    clear hTS
    go_wp2_with (at_builtin; refine Hid.out ?_)
    refine Lib.hid ?_
    refine wpList_appRows rfl (.tmp 53) (.tmp 55) rfl w0.heap.size _ _ [⟨r.f0.set 0 (-x), r.f1⟩] _ [.slice (some ⟨g3, 0, none⟩) n3 c3, .int .i64 r.f1] 1 rfl rfl HO7.out rfl rfl ?_ (fun W' hW => encOne HI4.out hW) HOL.out HZ7.out ?_
    ·intro u hu
     simp only [List.mem_cons, List.not_mem_nil, or_false] at hu
     rcases hu with rfl | rfl <;> rfl
    intro v8 w8 HO8 HB8
    go_wp2
    refine ⟨⟨j, (j : Int) - 1, _, Nat.le_of_lt HJ.out, rfl, congrArg (Value.int .i64) HW1.out, Lib.hid (by rw [HT.out, HTS.out]; exact HO8.out), Lib.hid (HB.out.trans ((HB7.out.mono HB.out.size).trans HB8.out))⟩, ?_⟩
    rw [HW1.out]
    simp only [intOf]
    omega
  ·have e1 := eq_false h0
   obtain rfl : j = 0 := by omega
   rw [List.drop_zero, HMM.out] at HO
   obtain ⟨A5, c5, rfl, hc5, hC5⟩ := HO.out.read (by have := HM9.out.2; omega)
   have HC5 := Lib.hid hC5
   have HC5c := Lib.hid hc5
   have HC4' := Lib.hid (Kd.C_below HC4.out HB.out)
   have HB6 := Lib.hid (HB5.out.trans (HB.out.mono HB5.out.size))
   clear hc5 hC5 h0 hj hi HO HB
   go_wp2_with fail
   refine (wsolve_at HC4'.out HC4c.out (fun r hr => s9_in (HL9.out.1 r hr)) ⟨by decide, by decide⟩ (by have := HL9.out.2; omega) HA.out).mono ?_
   rintro e w6 ⟨⟨A6, c6, rfl, hC6⟩, hb6⟩
   have HB7 := Lib.hid (HB6.out.trans (hb6.mono HB6.out.size))
   have HC5' := Lib.hid (Kd.C_below HC5.out hb6)
   clear hC6 hb6
   go_wp2_with fail
   refine (wsolve_at HC5'.out HC5c.out (fun r hr => s9_in (HM9.out.1 r hr)) ⟨by decide, by decide⟩ (by have := HM9.out.2; omega) HBB.out).mono ?_
   rintro e w7 ⟨⟨A7, c7, rfl, hC7⟩, hb7⟩
   have HB8 := Lib.hid (HB7.out.trans (hb7.mono HB7.out.size))
   have HC5'' := Lib.hid (Kd.C_below HC5'.out hb7)
   have HC7 := Lib.hid hC7
   clear hC7 hb7
   obtain ⟨hab, h12, hck⟩ := HLAW.out
   replace hab : a = b := hab
   replace h12 : a = 1 ∨ a = 2 := h12
   replace hck : b = 1 → chkW (M.map toZ) q = true := hck
   subst hab
   rcases h12 with rfl | rfl
   ·have HCK := Lib.hid (hck rfl)
    have HPI := Lib.hid (show ∀ y, y ∈ q → In64 y by
     intro y hy
     refine wsolve_in (v := n) (f := 1000) (fun r hr => s9_in (HM9.out.1 r hr)) y ?_
     rw [HBB.out]; exact hy)
    clear hck
    go_wp2_with fail
    refine (check12_any M q A5 A7 c5 c7 w7 HC5''.out HC7.out (fun r hr => s9_in (HM9.out.1 r hr)) HPI.out).mono ?_
    rintro e w8 ⟨rfl, hb9⟩
    rw [HCK.out]
    have HB9 := Lib.hid (HB8.out.trans (hb9.mono HB8.out.size))
    clear hb9
    go_wp2
    go_ret
    exact ⟨rfl, HB9.out⟩
   ·clear hck
    go_wp2
    go_ret
    exact ⟨rfl, HB8.out⟩
end Go.Proofs.YtbpjnkeilhfajaaGreat.Rw
