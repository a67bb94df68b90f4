/- WholeMore, walked. -/
import Derived.Test.YtmcfcmijopbinaaWnS
namespace Go.Proofs
theorem Zp13 {p q : Prop} (hq : q) (h : p = q := by first | (simp only [Act.put, List.setIfInBounds_toArray, List.set_cons_zero, List.set_cons_succ]; done) | (simp only [Act.put, List.setIfInBounds_toArray, List.set_cons_zero, List.set_cons_succ]; rfl) | rfl) : p := Eq.mpr h hq
theorem Z130 {p : Prop} (h : p := by kernel_rfl) : p := h
theorem Z131 {p : Prop} (h : p := by decide +kernel) : p := h
theorem Z132 {p : Prop} (h : p := by (intro w_ hSw; skip; go_simp; all_goals (with_reducible rfl); done)) : p := h
theorem Z133 {p : Prop} (h : p := by exact hHeld.keep hb2) : p := h
theorem Z134 {p : Prop} (h : p := by intro w_; go_simp; done) : p := h
theorem Z135 {p : Prop} (h : p := by have := HLL.out.2; unfold maxLen; omega) : p := h
theorem Z136 {p : Prop} (h : p := by exact hHeld.grown hg (fun k h => by cases h; have := HLT.out; have := HG0.out; show g0_ ≠ _; omega) (fun k h => by cases h; exact HG0.out)) : p := h
theorem Z137 {p : Prop} (h : p := by have := HLL.out.2; have := HS3.out.1; unfold maxLen; omega) : p := h
theorem Z138 {p : Prop} (h : p := by have := HLL.out.2; have := HS3.out.1; omega) : p := h
theorem Z139 {p : Prop} (h : p := by exact hHeld.grown hg2 (fun k h => by have := (HV1.out.lt k h).1; have := HLT.out; omega) (fun k h => (HV1.out.lt k h).1)) : p := h
theorem Z13a {p : Prop} (h : p := by (intro w_ hSw; simp only [Cells] at hSw; go_simp; all_goals (with_reducible rfl); done)) : p := h
end Go.Proofs
namespace Go.Proofs.Ytmcfcmijopbinaa.Ln
open Go.RowKit Go.Proofs.Ytmcfcmijopbinaa.PWholeMore Go.Proofs.Ytmcfcmijopbinaa.Num Go.Proofs.Ytmcfcmijopbinaa.Given Go.Proofs.Ytmcfcmijopbinaa.Lin Go.Proofs.YtmcfcmijopbinaaW.PrintWords
set_option linter.unusedVariables false
set_option linter.unusedSimpArgs false
theorem own_of_N {α : Type} {d : Kd α} {e : Nat} {w : World} {base : Nat} {ok : Nat → Prop} {v : Value} {xs : List α} (hsz : 0 < d.sz) (h : Kd.N d e w base ok v xs) : ∃ inner, w.ownsRow base e d.sz v xs.length inner ∧ (∀ W' : World, (∀ k, ok k → k < w.heap.size → some k ≠ v.ownBlock → W'.heap[k]? = w.heap[k]?) → Enc d W' xs inner) ∧ ∀ u, u ∈ inner → u.oneCell' = true := by
 obtain ⟨-, rows, hl, ⟨-, inner, ho, hr⟩, hf⟩ := h
 refine ⟨inner, by rwa [hl] at ho, fun W' hW => ⟨?_, fun j p hj => ?_⟩, fun u hu => ?_⟩
 ·have := hr.1; rwa [hl] at this
 ·have hjl : j < rows.length := by rw [hl]; exact (List.getElem?_eq_some_iff.1 hj).1
  have hrow := hr.2 j rows[j] (List.getElem?_eq_getElem hjl)
  have hk := hf j p rows[j] hj (List.getElem?_eq_getElem hjl) W' (fun k hk hlt => hW k hk.1 hlt hk.2)
  obtain ⟨e1, e2, -⟩ := (hrow : _ = _ ∧ _ ∧ _)
  refine ⟨rows[j], e1 ▸ e2, hk, fun i u hu => ?_⟩
  rw [← e1, List.getElem?_take] at hu
  split at hu
  ·rwa [List.getElem?_drop] at hu
  ·cases hu
 ·obtain ⟨i, hi, rfl⟩ := List.getElem_of_mem hu
  have hlen : inner.length = rows.length * d.sz := hr.1
  have hjl : i / d.sz < rows.length := Nat.div_lt_of_lt_mul (by rw [Nat.mul_comm]; omega)
  have hrow := hr.2 (i / d.sz) rows[i / d.sz] (List.getElem?_eq_getElem hjl)
  obtain ⟨e1, -, e3⟩ := (hrow : _ = _ ∧ _ ∧ _)
  refine e3 _ (List.mem_of_getElem? (i := i % d.sz) ?_)
  show ((inner.drop (i / d.sz * d.sz)).take d.sz)[i % d.sz]? = _
  rw [List.getElem?_take, if_pos (Nat.mod_lt _ hsz), List.getElem?_drop, Nat.mul_comm, Nat.div_add_mod, List.getElem?_eq_getElem hi]
theorem and64k (v : Int) : ∃ n : Nat, Int.tmod (Go.bits .and .i64 v 65535) 4 = (n : Int) ∧ n ≤ 3 := by
 have h7 : (BitVec.ofInt 64 65535).toNat = 2 ^ 16 - 1 := by decide
 have key : (BitVec.ofInt 64 v &&& BitVec.ofInt 64 65535).toNat = (v % ((2 ^ 64 : Nat) : Int)).toNat % 2 ^ 16 := by
  rw [BitVec.toNat_and, BitVec.toNat_ofInt, h7, Nat.and_two_pow_sub_one_eq_mod]
 have hb : Go.bits .and .i64 v 65535 = v % 65536 := by
  show IntKind.i64.wrap ((BitVec.ofInt 64 v &&& BitVec.ofInt 64 65535).toNat : Nat) = v % 65536
  rw [key, IntKind.wrap_i64]
  omega
 rw [hb]
 refine ⟨(Int.tmod (v % 65536) 4).toNat, ?_, ?_⟩
 ·rw [Int.tmod_eq_emod_of_nonneg (by omega)]; omega
 ·rw [Int.tmod_eq_emod_of_nonneg (by omega)]; omega
theorem Hd.grown0 {W : World} {base : Nat} {w w1 : World} {row : Option Nat} (h : Hd [] W base w) (hg : w.grownBy w1 row) (hr : ∀ k, row = some k → base ≤ k) : Hd [] W base w1 := ⟨by obtain ⟨a, _, _⟩ := h; exact a, trivial, Below.grown h.below hg h.size hr⟩
theorem share8 {Goal : Prop} {Φ : Nat → Value → Nat → Option Addr → Nat → Value → World → Prop} (Facts : Value → World → Prop) (h1 : (∀ g v g' a c u w, Facts u w → Φ g v g' a c u w) → Goal) (h2 : ∀ g v g' a c u w, Facts u w → Φ g v g' a c u w) : Goal := h1 h2
theorem share7 {Goal : Prop} {Φ : Value → Value → World → Prop} (Facts : Value → World → Prop) (h1 : (∀ u v w, Facts v w → Φ u v w) → Goal) (h2 : ∀ u v w, Facts v w → Φ u v w) : Goal := h1 h2
set_option maxHeartbeats 64000000 in
set_option maxRecDepth 100000 in
theorem whmore_any (l : List S25) (A : Option Addr) (c : Nat) (r : S25) (A' : Option Addr) (c' : Nat) (v : Int) (w : World) (hC : Kd.C k25 w A l.length l) (hc : l.length ≤ c) (hR : (Kd.int .i64).C w A' r.f0.length r.f0) (hc' : r.f0.length ≤ c') :
  Calls Try.prog 3 #[.slice A l.length c, .agg #[.slice A' r.f0.length c', .int .i64 r.f1], .int .i64 v] w fun e w' => e = .returned (.bool true) ∧ Below w.heap.size w w' := by
 obtain ⟨n, hv, hn⟩ := and64k v
 obtain ⟨k1, hk1⟩ := small_is (l := l) hn
 obtain ⟨k2, hk2⟩ := small_is (l := [r]) hn
 obtain ⟨bx, hbx, hbz, hbl, hbi⟩ := box_is hn
 have HC := Lib.hid (And.intro hC (And.intro hc (And.intro hR hc')))
 have HK := Lib.hid (And.intro hk1 (And.intro hk2 hbx))
 have HBX := Lib.hid (And.intro hbz (And.intro hbl hbi))
 have HN := Lib.hid hn
 clear hC hc hR hc' hk1 hk2 hbx hbz hbl hbi hn
 go_enter Try.func3, Try.ntmps3
 go_wp2_with fail
 have hb0 : Below w.heap.size w (w.alloc (.cells #[.slice A' r.f0.length c', .int .i64 r.f1] 25)) := (by repeat (first | exact Below.refl _ _ | with_reducible assumption | refine Below.alloc ?_ (by first | exact Nat.le_refl _ | (simp; done) | (simp; omega) | omega) _ | refine Below.setCell ?_ (by first | exact Nat.le_refl _ | (simp; done) | (simp; omega) | omega) _ | refine Below.drew ?_ | refine bdrewN ?_ _))
 have k0 : (w.alloc (.cells #[.slice A' r.f0.length c', .int .i64 r.f1] 25)).heap[w.heap.size]? = some (.cells #[.slice A' r.f0.length c', .int .i64 r.f1] 25 (0, 0)) := blk_new _ _
 refine (wshown_any _).mono ?_
 rintro e w1 ⟨rfl, hb1⟩
 have HB1 := Lib.hid (hb0.trans (hb1.mono hb0.size))
 have HBX1 := Lib.hid (And.intro (blk_below k0 hb1) (blk_lt (blk_below k0 hb1)))
 clear hb0 k0 hb1
 go_wp2_with fail
 refine (ashlarlaw12_small.calls k1 A c l (n : Int) (smallL n l) w1 (Kd.C_below HC.out.1 HB1.out) HC.out.2.1 HK.out.1).mono ?_
 rintro e w2 ⟨v8, rfl, hS8, hb2⟩
 obtain ⟨A8, c8, rfl⟩ := Kd.S_slice hS8
 have hR8 := Kd.S_reads' hS8
 have HS8 := Lib.hid (And.intro hR8.2.1 hR8.2.2)
 have HB2 := Lib.hid (HB1.out.trans (hb2.mono HB1.out.size))
 have HBX2 := hp_keep HBX1 hb2
 have HS3 := Lib.hid (small_ok (n := n) (l := l))
 have HS0 := HS3
 obtain ⟨m8, hm8⟩ : ∃ m, (smallL n l).length = m := ⟨_, rfl⟩
 have hm3 : m8 ≤ 3 := by rw [← hm8, HS3.out.1]; omega
 have hC8 : Kd.C k25 w2 A8 ((smallL n l).take 2).length ((smallL n l).take 2) := by
  have h := Kd.C_take HS8.out.2 (show min m8 2 ≤ (smallL n l).length by omega)
  have e : (smallL n l).take (min m8 2) = (smallL n l).take 2 := by
   rcases Nat.le_total m8 2 with h3 | h3
   ·rw [Nat.min_eq_left h3, List.take_of_length_le (by omega), List.take_of_length_le (by omega)]
   ·rw [Nat.min_eq_right h3]
  rw [e] at h
  exact h
 obtain ⟨a2, ha2⟩ : ∃ a, (smallL n l).take 2 = a := ⟨_, rfl⟩
 have hl2 : a2.length = min m8 2 := by rw [← ha2, List.length_take, hm8, Nat.min_comm]
 rw [ha2] at hC8
 obtain ⟨news, hraw, henc⟩ := raw_of row_one hC8 (by decide)
 have hc8 : m8 ≤ c8 := by rw [← hm8]; exact HS8.out.1
 have HRW := Lib.hid hraw
 have HEN := Lib.hid henc
 have HL2 := Lib.hid (And.intro hl2 hm3)
 rw [hm8]
 have em : min (m8 : Int) 2 = ((a2.length : Nat) : Int) := by rw [hl2]; omega
 have e1 : (a2.length ≤ c8) = True := eq_true (by omega)
 have e2 : ((a2.length : Int) ≤ (c8 : Int)) = True := eq_true (by omega)
 have HA2 := Lib.hid (And.intro ha2 hm8)
 clear hS8 hR8 hb2 HBX1 HB1 hm8 hm3 hC8 ha2 hl2 hraw henc hc8
 go_wp2_with fail
 apply share7 (fun v9 w4 => (∃ raw, w4.ownsRow w2.heap.size 25 2 v9 (bx.length + a2.length) raw ∧ Enc k25 w4 (bx ++ a2) raw) ∧ Below w2.heap.size w2 w4)
 ·intro hΦ
  have HΦ := Lib.hid hΦ
  clear hΦ
  refine wp_region_L 8 (Hd _ w2 w2.heap.size) Z130 (⟨Nat.le_refl _, (show Cells [] w2 from trivial).keep (Below.refl _ _).drew, (Below.refl _ _).drew⟩) (fun hHeld => ?_)
  refine tl0 ?_ Z131 (by rfl) (fun _ _ _ => id) ?_ (by assumption) ?_; rotate_left 1; (focus exact Z132); focus try simp only [Act.put, List.setIfInBounds_toArray, List.set_cons_zero, List.set_cons_succ]
  refine tl2 ?_ Z131 (by rfl) (fun _ _ _ => id) ?_ (by assumption) ?_; rotate_left 1; (focus exact Z132); focus try simp only [Act.put, List.setIfInBounds_toArray, List.set_cons_zero, List.set_cons_succ]
  refine tl3 ?_ Z131 (by rfl) (fun _ _ _ => id) ?_ (by assumption) ?_; rotate_left 1; (focus exact Z132); focus try simp only [Act.put, List.setIfInBounds_toArray, List.set_cons_zero, List.set_cons_succ]
  refine tl4 ?_ Z131 (by rfl) (fun _ _ _ => id) ?_ (by assumption) ?_; rotate_left 1; (focus exact Z132); focus try simp only [Act.put, List.setIfInBounds_toArray, List.set_cons_zero, List.set_cons_succ]
  refine tl5 ?_ Z131 (by rfl) (fun _ _ _ => id) ?_ (by assumption) ?_; rotate_left 1; (focus exact Z132); focus try simp only [Act.put, List.setIfInBounds_toArray, List.set_cons_zero, List.set_cons_succ]
  refine tl6 ?_ Z131 (by rfl) (fun _ _ _ => id) ?_ (by assumption) ?_; rotate_left 1; (focus exact Z132); focus try simp only [Act.put, List.setIfInBounds_toArray, List.set_cons_zero, List.set_cons_succ]
  refine wpAnyL_ready (rs := [1]) Z130 (by simp) (al1 (fun K hK => ?_) (AllReadyL.nil))
  focus go_simp
  focus (refine (ashlarlaw12_box.calls 20 (n : Int) 3 bx _ HK.out.2.2).mono ?_; rintro e w3_ ⟨v26_, rfl, hN_, hb2⟩; obtain ⟨raw26_, ho_, hen_, -⟩ := own_of_N (by decide) hN_; have HO26 := Lib.hid (own_less ho_ hHeld.size); have HE26 := Lib.hid hen_)
  focus try simp only []
  refine hK.out _ _ (fun _ => ?_) (fun hHeld => ?_)
  ·exact Z133
  focus (have hHeld := hHeld (by decide); clear hK K; refine Zp13 ?_)
  refine wpAnyL_ready (rs := [7]) Z130 (by simp) (al7 (fun K hK => ?_) (AllReadyL.nil))
  focus (refine step_appR rfl (.tmp 26) (.tmp 31) _ rfl w2.heap.size 25 (.agg #[.slice none 0 0, .int .i64 0]) 2 32 Try.underlying22 infoRow rfl (by decide) _ bx.length raw26_ rfl HO26.out A8 a2.length c8 news rfl (HRW.out.below hHeld.below) (by have := HL2.out; have := HBX.out.2.1; have := HN.out; unfold maxLen; omega) (by have := HL2.out; have := HBX.out.2.1; have := HN.out; omega) hHeld.size ?_; intro v9_ w4_ HV9 hg9)
  refine hK.out _ _ (fun _ => ?_) (fun hHeld => ?_)
  ·exact hHeld.grown0 hg9 (fun k h => (HO26.out.lt k h).1)
  focus (have hHeld := hHeld (by decide); clear hK K; refine Zp13 ?_)
  refine wpAnyL_ready (rs := [8]) Z130 (by simp) (al8 (fun K hK => ?_) (AllReadyL.nil))
  focus go_simp
  refine hK.out _ _ (fun h => absurd rfl h) (fun _ => ?_)
  focus (clear hK K; refine Zp13 ?_)
  refine wpAnyL_done Z130 ?_ _; rotate_left 1
  all_goals exact HΦ.out v26_ v9_ w4_ ⟨⟨_, HV9.out, (HE26.out w4_ (fun k _ hk hne => hg9.block k hk hne)).app (HEN.out.below hHeld.below)⟩, hHeld.below⟩
 ·intro u26 v9 w4 hf
  obtain ⟨⟨raw9, ho9, he9⟩, hb4⟩ := hf
  obtain ⟨L, hL⟩ : ∃ L, bx ++ a2 = L := ⟨_, rfl⟩
  have hLl : L.length = bx.length + a2.length := by rw [← hL, List.length_append]
  have hLn : L.length ≤ 8 := by have := HL2.out; have := HBX.out.2.1; have := HN.out; omega
  rw [← hLl] at ho9
  rw [hL] at he9
  obtain ⟨A9, c9, rfl, hc9, hC9⟩ := own_C (d := k25) ho9 he9 rfl (by unfold maxLen; omega)
  obtain ⟨newsL, hrawL, hencL⟩ := raw_of row_one hC9 (by decide)
  have HRL := Lib.hid hrawL
  have HEL := Lib.hid hencL
  have HCL := Lib.hid (And.intro hc9 hC9)
  have HLL := Lib.hid (And.intro hL hLn)
  have HB4 := Lib.hid (HB2.out.trans (hb4.mono HB2.out.size))
  have HBX4 := hp_keep HBX2 hb4
  have HCE := Lib.hid (show Cells [(⟨w.heap.size, 0, none⟩, .slice A' r.f0.length c'), (⟨w.heap.size, 1, none⟩, .int .i64 r.f1)] w4 from ⟨blk_cell HBX4.out.1 0, blk_cell HBX4.out.1 1, trivial⟩)
  have HS3 := Lib.hid (small_ok (n := n) (l := [r]))
  obtain ⟨s1, hs1⟩ : ∃ s, smallL n [r] = s := ⟨_, rfl⟩
  rw [hs1] at HK HS3
  have HS1 := Lib.hid hs1
  have HLT := Lib.hid HBX4.out.2
  clear ho9 he9 hb4 hL hLl hLn hc9 hC9 hrawL hencL hs1
  go_wp2_with fail
  apply share8 (fun v10 w5 => (∃ raw, w5.ownsRow w4.heap.size 25 2 v10 (0 + L.length + s1.length) raw ∧ Enc k25 w5 (L ++ s1) raw) ∧ Below w4.heap.size w4 w5)
  ·intro hΦ
   have HΦ := Lib.hid hΦ
   clear hΦ
   refine wp_region_L 8 (Hd _ w4 w4.heap.size) Z130 (⟨Nat.le_refl _, HCE.out.keep (Below.refl _ _).drew, (Below.refl _ _).drew⟩) (fun hHeld => ?_)
   refine tl1.go ?_
   refine tl3.go ?_
   refine tl5.go ?_
   refine wpAnyL_ready (rs := [0, 4]) Z130 (by simp) (al0 (fun K hK => ?_) (al4 (fun K hK => ?_) (AllReadyL.nil)))
   focus (refine sl_newh (.cells #[] 25) 0 Z130 Z134 (fun g0_ w2 hg0_ hb2 HP0 => ?_); have HG0 := Lib.hid (Nat.le_trans hHeld.size (Nat.le_of_eq hg0_.out.symm)); have HR0 := own_none (w := w4) (size := 2) HP0 HG0.out; (try have HNE := Lib.hid (show g4_ ≠ g0_ by have := hg0_.out; have := HPX.out.2; omega)); (try have HPX := hp_keep HPX hb2))
   refine hK.out _ _ (fun _ => ?_) (fun hHeld => ?_)
   ·exact Z133
   focus (have hHeld := hHeld (by decide); clear hK K; refine Zp13 ?_)
   refine wpAnyL_ready (rs := [2, 4]) Z130 (by simp) (al2 (fun K hK => ?_) (al4 (fun K hK => ?_) (AllReadyL.nil)))
   focus (refine step_appR rfl (.tmp 33) (.tmp 34) _ rfl w4.heap.size 25 (.agg #[.slice none 0 0, .int .i64 0]) 2 32 Try.underlying22 infoRow rfl (by decide) _ 0 [] rfl HR0.out A9 L.length c9 newsL rfl (HRL.out.below hHeld.below) Z135 (by have := HLL.out.2; omega) hHeld.size ?_; intro v1_ w4_ HV1 hg; (try have HPX := hp_grown HPX hg (fun h => HNE.out (Option.some.inj h).symm)))
   refine hK.out _ _ (fun _ => ?_) (fun hHeld => ?_)
   ·exact Z136
   focus (have hHeld := hHeld (by decide); clear hK K; refine Zp13 ?_)
   refine wpAnyL_ready (rs := [4]) Z130 (by simp) (al4 (fun K hK => ?_) (AllReadyL.nil))
   focus (refine sl_newh (.cells #[.slice A' r.f0.length c', .int .i64 r.f1] 25) 1 Z130 Z134 (fun g4_ w2 hg4_ hb2 HPX => ?_); (try have HNE := Lib.hid (show g4_ ≠ g0_ by have := hg4_.out; have := HP0.out.2; omega)); (try have HR0 := own_keepB HR0 hb2); (try have HV1 := own_keepB HV1 hb2); (try have HP0 := hp_keep HP0 hb2))
   refine hK.out _ _ (fun _ => ?_) (fun hHeld => ?_)
   ·exact Z133
   focus (have hHeld := hHeld (by decide); clear hK K; refine Zp13 ?_)
   refine wpAnyL_ready (rs := [6]) Z130 (by simp) (al6 (fun K hK => ?_) (AllReadyL.nil))
   focus go_simp
   focus (have HVL := Lib.hid (fun (k : Nat) (hk : v1_.ownBlock = some k) => (HV1.out.lt k hk).2); refine (ashlarlaw12_small.calls k2 (some ⟨g4_, 0, none⟩) 1 [r] (n : Int) s1 _ (raw_C (d := k25) (raw_lit HPX rfl rfl) (Enc.one rfl (k25_mk _ r (A0 := A') (c0 := c') HC.out.2.2.2 (Kd.C_below HC.out.2.2.1 (HB4.out.trans (hHeld.below.mono HB4.out.size))))) rfl (by simp)) (Nat.le_refl 1) HK.out.2.1).mono ?_; rintro e w6_ ⟨v39_, rfl, hS_, hb2⟩; obtain ⟨A39_, c39_, rfl⟩ := Kd.S_slice hS_; obtain ⟨news39_, hr39_, he39_, h139_⟩ := own_of_N (by decide) (Kd.S_N (Kd.S_mono (Kd.S_bound hS_) (fun k hk => hk.2.1))); have HR39 := Lib.hid (own_raw hr39_ h139_); have HE39 := Lib.hid he39_; have HV1 := own_keepB HV1 hb2)
   focus try simp only []
   refine hK.out _ _ (fun _ => ?_) (fun hHeld => ?_)
   ·exact Z133
   focus (have hHeld := hHeld (by decide); clear hK K; refine Zp13 ?_)
   refine wpAnyL_ready (rs := [7]) Z130 (by simp) (al7 (fun K hK => ?_) (AllReadyL.nil))
   focus (refine step_appR rfl (.tmp 35) (.tmp 39) _ rfl w4.heap.size 25 (.agg #[.slice none 0 0, .int .i64 0]) 2 32 Try.underlying22 infoRow rfl (by decide) _ (0 + L.length) ([] ++ newsL) rfl HV1.out A39_ s1.length c39_ news39_ rfl HR39.out Z137 Z138 hHeld.size ?_; intro v2_ w7_ HV2 hg2)
   refine hK.out _ _ (fun _ => ?_) (fun hHeld => ?_)
   ·exact Z139
   focus (have hHeld := hHeld (by decide); clear hK K; refine Zp13 ?_)
   refine wpAnyL_ready (rs := [8]) Z130 (by simp) (al8 (fun K hK => ?_) (AllReadyL.nil))
   focus go_simp
   refine hK.out _ _ (fun h => absurd rfl h) (fun _ => ?_)
   focus (clear hK K; refine Zp13 ?_)
   refine wpAnyL_done Z130 ?_ _; rotate_left 1
   focus (refine sl_newh (.cells #[.slice A' r.f0.length c', .int .i64 r.f1] 25) 1 Z130 Z134 (fun g4_ w2 hg4_ hb2 HPX => ?_); (try have HNE := Lib.hid (show g4_ ≠ g0_ by have := hg4_.out; have := HP0.out.2; omega)); (try have HR0 := own_keepB HR0 hb2); (try have HV1 := own_keepB HV1 hb2); (try have HP0 := hp_keep HP0 hb2))
   refine hK.out _ _ (fun _ => ?_) (fun hHeld => ?_)
   ·exact Z133
   focus (have hHeld := hHeld (by decide); clear hK K; refine Zp13 ?_)
   refine wpAnyL_ready (rs := [2]) Z130 (by simp) (al2 (fun K hK => ?_) (AllReadyL.nil))
   focus (refine step_appR rfl (.tmp 33) (.tmp 34) _ rfl w4.heap.size 25 (.agg #[.slice none 0 0, .int .i64 0]) 2 32 Try.underlying22 infoRow rfl (by decide) _ 0 [] rfl HR0.out A9 L.length c9 newsL rfl (HRL.out.below hHeld.below) Z135 (by have := HLL.out.2; omega) hHeld.size ?_; intro v1_ w4_ HV1 hg; (try have HPX := hp_grown HPX hg (fun h => HNE.out (Option.some.inj h).symm)))
   refine hK.out _ _ (fun _ => ?_) (fun hHeld => ?_)
   ·exact Z136
   focus (have hHeld := hHeld (by decide); clear hK K; refine Zp13 ?_)
   refine wpAnyL_ready (rs := [6]) Z130 (by simp) (al6 (fun K hK => ?_) (AllReadyL.nil))
   focus go_simp
   focus (have HVL := Lib.hid (fun (k : Nat) (hk : v1_.ownBlock = some k) => (HV1.out.lt k hk).2); refine (ashlarlaw12_small.calls k2 (some ⟨g4_, 0, none⟩) 1 [r] (n : Int) s1 _ (raw_C (d := k25) (raw_lit HPX rfl rfl) (Enc.one rfl (k25_mk _ r (A0 := A') (c0 := c') HC.out.2.2.2 (Kd.C_below HC.out.2.2.1 (HB4.out.trans (hHeld.below.mono HB4.out.size))))) rfl (by simp)) (Nat.le_refl 1) HK.out.2.1).mono ?_; rintro e w6_ ⟨v39_, rfl, hS_, hb2⟩; obtain ⟨A39_, c39_, rfl⟩ := Kd.S_slice hS_; obtain ⟨news39_, hr39_, he39_, h139_⟩ := own_of_N (by decide) (Kd.S_N (Kd.S_mono (Kd.S_bound hS_) (fun k hk => hk.2.1))); have HR39 := Lib.hid (own_raw hr39_ h139_); have HE39 := Lib.hid he39_; have HV1 := own_keepB HV1 hb2)
   focus try simp only []
   refine hK.out _ _ (fun _ => ?_) (fun hHeld => ?_)
   ·exact Z133
   focus (have hHeld := hHeld (by decide); clear hK K; refine Zp13 ?_)
   refine wpAnyL_ready (rs := [7]) Z130 (by simp) (al7 (fun K hK => ?_) (AllReadyL.nil))
   focus (refine step_appR rfl (.tmp 35) (.tmp 39) _ rfl w4.heap.size 25 (.agg #[.slice none 0 0, .int .i64 0]) 2 32 Try.underlying22 infoRow rfl (by decide) _ (0 + L.length) ([] ++ newsL) rfl HV1.out A39_ s1.length c39_ news39_ rfl HR39.out Z137 Z138 hHeld.size ?_; intro v2_ w7_ HV2 hg2)
   refine hK.out _ _ (fun _ => ?_) (fun hHeld => ?_)
   ·exact Z139
   focus (have hHeld := hHeld (by decide); clear hK K; refine Zp13 ?_)
   refine wpAnyL_ready (rs := [8]) Z130 (by simp) (al8 (fun K hK => ?_) (AllReadyL.nil))
   focus go_simp
   refine hK.out _ _ (fun h => absurd rfl h) (fun _ => ?_)
   focus (clear hK K; refine Zp13 ?_)
   refine wpAnyL_done Z130 ?_ _; rotate_left 1
   focus (refine sl_newh (.cells #[.slice A' r.f0.length c', .int .i64 r.f1] 25) 1 Z130 Z134 (fun g4_ w2 hg4_ hb2 HPX => ?_); (try have HNE := Lib.hid (show g4_ ≠ g0_ by have := hg4_.out; have := HP0.out.2; omega)); (try have HR0 := own_keepB HR0 hb2); (try have HV1 := own_keepB HV1 hb2); (try have HP0 := hp_keep HP0 hb2))
   refine hK.out _ _ (fun _ => ?_) (fun hHeld => ?_)
   ·exact Z133
   focus (have hHeld := hHeld (by decide); clear hK K; refine Zp13 ?_)
   refine wpAnyL_ready (rs := [0]) Z130 (by simp) (al0 (fun K hK => ?_) (AllReadyL.nil))
   focus (refine sl_newh (.cells #[] 25) 0 Z130 Z134 (fun g0_ w2 hg0_ hb2 HP0 => ?_); have HG0 := Lib.hid (Nat.le_trans hHeld.size (Nat.le_of_eq hg0_.out.symm)); have HR0 := own_none (w := w4) (size := 2) HP0 HG0.out; (try have HNE := Lib.hid (show g4_ ≠ g0_ by have := hg0_.out; have := HPX.out.2; omega)); (try have HPX := hp_keep HPX hb2))
   refine hK.out _ _ (fun _ => ?_) (fun hHeld => ?_)
   ·exact Z133
   focus (have hHeld := hHeld (by decide); clear hK K; refine Zp13 ?_)
   refine wpAnyL_ready (rs := [2]) Z130 (by simp) (al2 (fun K hK => ?_) (AllReadyL.nil))
   focus (refine step_appR rfl (.tmp 33) (.tmp 34) _ rfl w4.heap.size 25 (.agg #[.slice none 0 0, .int .i64 0]) 2 32 Try.underlying22 infoRow rfl (by decide) _ 0 [] rfl HR0.out A9 L.length c9 newsL rfl (HRL.out.below hHeld.below) Z135 (by have := HLL.out.2; omega) hHeld.size ?_; intro v1_ w4_ HV1 hg; (try have HPX := hp_grown HPX hg (fun h => HNE.out (Option.some.inj h).symm)))
   refine hK.out _ _ (fun _ => ?_) (fun hHeld => ?_)
   ·exact Z136
   focus (have hHeld := hHeld (by decide); clear hK K; refine Zp13 ?_)
   refine wpAnyL_ready (rs := [6]) Z130 (by simp) (al6 (fun K hK => ?_) (AllReadyL.nil))
   focus go_simp
   focus (have HVL := Lib.hid (fun (k : Nat) (hk : v1_.ownBlock = some k) => (HV1.out.lt k hk).2); refine (ashlarlaw12_small.calls k2 (some ⟨g4_, 0, none⟩) 1 [r] (n : Int) s1 _ (raw_C (d := k25) (raw_lit HPX rfl rfl) (Enc.one rfl (k25_mk _ r (A0 := A') (c0 := c') HC.out.2.2.2 (Kd.C_below HC.out.2.2.1 (HB4.out.trans (hHeld.below.mono HB4.out.size))))) rfl (by simp)) (Nat.le_refl 1) HK.out.2.1).mono ?_; rintro e w6_ ⟨v39_, rfl, hS_, hb2⟩; obtain ⟨A39_, c39_, rfl⟩ := Kd.S_slice hS_; obtain ⟨news39_, hr39_, he39_, h139_⟩ := own_of_N (by decide) (Kd.S_N (Kd.S_mono (Kd.S_bound hS_) (fun k hk => hk.2.1))); have HR39 := Lib.hid (own_raw hr39_ h139_); have HE39 := Lib.hid he39_; have HV1 := own_keepB HV1 hb2)
   focus try simp only []
   refine hK.out _ _ (fun _ => ?_) (fun hHeld => ?_)
   ·exact Z133
   focus (have hHeld := hHeld (by decide); clear hK K; refine Zp13 ?_)
   refine wpAnyL_ready (rs := [7]) Z130 (by simp) (al7 (fun K hK => ?_) (AllReadyL.nil))
   focus (refine step_appR rfl (.tmp 35) (.tmp 39) _ rfl w4.heap.size 25 (.agg #[.slice none 0 0, .int .i64 0]) 2 32 Try.underlying22 infoRow rfl (by decide) _ (0 + L.length) ([] ++ newsL) rfl HV1.out A39_ s1.length c39_ news39_ rfl HR39.out Z137 Z138 hHeld.size ?_; intro v2_ w7_ HV2 hg2)
   refine hK.out _ _ (fun _ => ?_) (fun hHeld => ?_)
   ·exact Z139
   focus (have hHeld := hHeld (by decide); clear hK K; refine Zp13 ?_)
   refine wpAnyL_ready (rs := [8]) Z130 (by simp) (al8 (fun K hK => ?_) (AllReadyL.nil))
   focus go_simp
   refine hK.out _ _ (fun h => absurd rfl h) (fun _ => ?_)
   focus (clear hK K; refine Zp13 ?_)
   refine wpAnyL_done Z130 ?_ _; rotate_left 1
   all_goals exact HΦ.out g0_ v1_ g4_ A39_ c39_ v2_ w7_ ⟨⟨_, HV2.out, by rw [List.nil_append]; exact (HEL.out.below hHeld.below).app (HE39.out w7_ (fun k hb hk hne => hg2.block k hk (fun e => by have := HVL.out k e.symm; omega)))⟩, hHeld.below⟩
  ·intro g33 v35 g37 A39 c39 v10 w5 hf
   obtain ⟨⟨raw10, ho10, he10⟩, hb5⟩ := hf
   obtain ⟨M, hM⟩ : ∃ M, L ++ s1 = M := ⟨_, rfl⟩
   have hMl : M.length = 0 + L.length + s1.length := by rw [← hM, List.length_append]; omega
   have hMn : M.length ≤ 9 := by have := HLL.out.2; have := HS3.out.1; simp at this; omega
   rw [← hMl] at ho10
   rw [hM] at he10
   obtain ⟨A10, c10, rfl, hc10, hC10⟩ := own_C (d := k25) ho10 he10 rfl (by unfold maxLen; omega)
   have ha2 : ∀ x, x ∈ a2 → x.f0.length = n ∧ (∀ y, y ∈ x.f0 → y.natAbs ≤ 9) ∧ x.f1.natAbs ≤ 9 := fun x hx => by
    rw [← HA2.out.1] at hx; exact HS0.out.2 x (List.mem_of_mem_take hx)
   have hs1 := HS3.out.2
   have hin9 : ∀ x : S25, (x.f0.length = n ∧ (∀ y, y ∈ x.f0 → y.natAbs ≤ 9) ∧ x.f1.natAbs ≤ 9) → RowIn x := fun x h => ⟨⟨by have := h.2.2; omega, by have := h.2.2; omega⟩, fun y hy => by have := h.2.1 y hy; exact ⟨by omega, by omega⟩⟩
   have hLin : ∀ x, x ∈ L → RowIn x := fun x hx => by
    rw [← HLL.out.1] at hx
    exact (List.mem_append.1 hx).elim (HBX.out.2.2 x) (fun h => hin9 x (ha2 x h))
   have hMin : ∀ x, x ∈ M → RowIn x := fun x hx => by
    rw [← hM] at hx
    exact (List.mem_append.1 hx).elim (hLin x) (fun h => hin9 x (hs1 x h))
   have hLz : L.map toZ = boxZ n ++ a2.map toZ := by rw [← HLL.out.1, List.map_append, HBX.out.1]
   have hMz : M.map toZ = boxZ n ++ a2.map toZ ++ s1.map toZ := by rw [← hM, List.map_append, hLz]
   obtain ⟨a, ha⟩ : ∃ a, wsolve (L.map toZ) n 1000 (chkW (L.map toZ)) = a := ⟨_, rfl⟩
   obtain ⟨b, hb⟩ : ∃ b, wsolve (M.map toZ) n 1000 (chkW (M.map toZ)) = b := ⟨_, rfl⟩
   have hlaw := more_law HN.out (rows := a2.map toZ) (new := s1.map toZ) (a := a) (b := b) (fun x hx => by
    rw [← List.map_append] at hx
    obtain ⟨y, hy, rfl⟩ := List.mem_map.1 hx
    exact (List.mem_append.1 hy).elim (ha2 y) (hs1 y)) (by rw [← List.map_append, List.length_map, List.length_append]; have := HL2.out; have := HS3.out.1; simp at this; omega) (by rw [← hLz]; exact ha) (by rw [← hMz]; exact hb)
   rw [← hLz] at hlaw
   have HBIN := Lib.hid (show ∀ y, y ∈ b.2 → In64 y by
    rw [← hb]
    unfold wsolve
    split
    ·split
     ·exact srch_in (n : Int) _ _ M hMin
     ·intro y hy; cases hy
    ·intro y hy; cases hy)
   have HLAW := Lib.hid hlaw
   have HSOL1 := Lib.hid (fun W hC => wsolve_any L A9 c9 (n : Int) 1000 W hC HCL.out.1 hLin (by decide) (by have := HLL.out.2; show L.length + 1000 ≤ 100000; omega))
   have HSOL2 := Lib.hid (fun W hC => wsolve_any M A10 c10 (n : Int) 1000 W hC hc10 hMin (by decide) (by show M.length + 1000 ≤ 100000; omega))
   have HLIN := Lib.hid hLin
   rw [ha] at HSOL1
   rw [hb] at HSOL2
   have HCM := Lib.hid hC10
   have HCL5 := Lib.hid (Kd.C_below HCL.out.2 hb5)
   have HB5 := Lib.hid (HB4.out.trans (hb5.mono HB4.out.size))
   clear ho10 he10 hb5 hM hMl hMn hc10 hC10 ha2 hs1 hin9 hLin hMin hLz hMz ha hb hlaw
   go_wp2_with fail
   refine (HSOL1.out _ HCL5.out).mono ?_
   rintro e w6 ⟨⟨va, rfl, -⟩, hb6⟩
   have HB6 := Lib.hid (HB5.out.trans (hb6.mono HB5.out.size))
   have HCL6 := Lib.hid (Kd.C_below HCL5.out hb6)
   have HCM6 := Lib.hid (Kd.C_below HCM.out hb6)
   clear hb6
   go_wp2_with fail
   refine (HSOL2.out _ HCM6.out).mono ?_
   rintro e w7 ⟨⟨vp, rfl, hp⟩, hb7⟩
   have HB7 := Lib.hid (HB6.out.trans (hb7.mono HB6.out.size))
   have HCL7 := Lib.hid (Kd.C_below HCL6.out hb7)
   have HCM7 := Lib.hid (Kd.C_below HCM6.out hb7)
   obtain ⟨Ap, cp, rfl, hcp, hCp⟩ := Kd.R_reads (RowI.toR hp)
   have HCP := Lib.hid (And.intro hcp hCp)
   clear hb7 hp hcp hCp
   go_wp2_with fail
   refine (HSOL2.out _ HCM7.out).mono ?_
   rintro e w8 ⟨⟨vq, rfl, hq⟩, hb8⟩
   have HB8 := Lib.hid (HB7.out.trans (hb8.mono HB7.out.size))
   have HCL8 := Lib.hid (Kd.C_below HCL7.out hb8)
   have HCP8 := Lib.hid (And.intro HCP.out.1 (Kd.C_below HCP.out.2 hb8))
   obtain ⟨Aq, cq, rfl, hcq, hCq⟩ := Kd.R_reads (RowI.toR hq)
   have HCQ := Lib.hid (And.intro hcq hCq)
   clear hb8 hq hcq hCq
   obtain ⟨a1, av⟩ := a
   obtain ⟨b1, bv⟩ := b
   obtain ⟨h1, h2, h3, h4⟩ := HLAW.out
   dsimp only at h1 h2 h3 h4 HCP8 HCQ HBIN ⊢
   clear HSOL1 HSOL2 HLAW HCM HCM6 HCM7 HCL5 HCL6 HCL7 HCP
   rcases h2 with rfl | rfl
   ·obtain rfl : a1 = 1 := by
     rcases h1 with h | h
     ·exact h
     ·cases h3 h
    have hck := h4 rfl
    clear h1 h3 h4
    go_wp2_with fail
    refine (wcheck_any L bv A9 Ap c9 cp w8 HCL8.out HCL.out.1 HCP8.out.2 HLIN.out HBIN.out).mono ?_
    rintro e w9 ⟨rfl, hb9⟩
    rw [hck]
    have HB9 := Lib.hid (HB8.out.trans (hb9.mono HB8.out.size))
    have HCP9 := Lib.hid (And.intro HCP8.out.1 (Kd.C_below HCP8.out.2 hb9))
    have HCQ9 := Lib.hid (And.intro HCQ.out.1 (Kd.C_below HCQ.out.2 hb9))
    clear hb9 hck
    go_wp2
    go_loopw [17] (fun v17 wr => ∃ j : Nat, j ≤ bv.length ∧ v17 = .int .i64 j ∧ Below w9.heap.size w9 wr) (fun v17 _ => bv.length - (intOf v17).toNat)
    case atStart => exact ⟨0, Nat.zero_le _, rfl, Below.refl _ _⟩
    case round =>
     obtain ⟨j, hj, rfl, hbr⟩ := hrel
     by_cases hjl : j < bv.length
     ·have e1 : ((j : Int) < (bv.length : Int)) = True := eq_true (by omega)
      obtain ⟨ad, rfl, q0⟩ := i64_at (Kd.C_below HCP9.out.2 hbr) hjl
      obtain ⟨ad', rfl, q1⟩ := i64_at (Kd.C_below HCQ9.out.2 hbr) hjl
      obtain ⟨y, hy⟩ : ∃ y, bv[j] = y := ⟨_, rfl⟩
      rw [hy] at q0 q1
      have HCC := Lib.hid (show Cells [(ad.add j, .int .i64 y), (ad'.add j, .int .i64 y)] wr from ⟨q0, q1, trivial⟩)
      have EW := Lib.hid (wrapj (show j + 1 < 9223372036854775808 by have := Kd.C_max HCP9.out.2; omega))
      have HBR := Lib.hid hbr
      have HJ := Lib.hid hjl
      clear hy hj hjl hbr q0 q1
      go_wp2_with fail
      refine wp_region_L 8 (Cells _) Z130 (HCC.out.keep (Below.refl _ _).drew) (fun hHeld => ?_)
      refine tl0 ?_ Z131 (by rfl) (fun _ _ _ => id) ?_ (by assumption) ?_; rotate_left 1; (focus exact Z13a); focus try simp only [Act.put, List.setIfInBounds_toArray, List.set_cons_zero, List.set_cons_succ]
      refine tl1 ?_ Z131 (by rfl) (fun _ _ _ => id) ?_ (by assumption) ?_; rotate_left 1; (focus exact Z13a); focus try simp only [Act.put, List.setIfInBounds_toArray, List.set_cons_zero, List.set_cons_succ]
      refine tl2 ?_ Z131 (by rfl) (fun _ _ _ => id) ?_ (by assumption) ?_; rotate_left 1; (focus exact Z13a); focus try simp only [Act.put, List.setIfInBounds_toArray, List.set_cons_zero, List.set_cons_succ]
      refine tl3 ?_ Z131 (by rfl) (fun _ _ _ => id) ?_ (by assumption) ?_; rotate_left 1; (focus exact Z13a); focus try simp only [Act.put, List.setIfInBounds_toArray, List.set_cons_zero, List.set_cons_succ]
      refine tl4 ?_ Z131 (by rfl) (fun _ _ _ => id) ?_ (by assumption) ?_; rotate_left 1; (focus exact Z13a); focus try simp only [Act.put, List.setIfInBounds_toArray, List.set_cons_zero, List.set_cons_succ]
      refine tl5 ?_ Z131 (by rfl) (fun _ _ _ => id) ?_ (by assumption) ?_; rotate_left 1; (focus exact Z13a); focus try simp only [Act.put, List.setIfInBounds_toArray, List.set_cons_zero, List.set_cons_succ]
      refine tl6 ?_ Z131 (by rfl) (fun _ _ _ => id) ?_ (by assumption) ?_; rotate_left 1; (focus exact Z13a); focus try simp only [Act.put, List.setIfInBounds_toArray, List.set_cons_zero, List.set_cons_succ]
      refine tl7 ?_ Z131 (by rfl) (fun _ _ _ => id) ?_ (by assumption) ?_; rotate_left 1; (focus exact Z13a); focus try simp only [Act.put, List.setIfInBounds_toArray, List.set_cons_zero, List.set_cons_succ]
      refine wpAnyL_ready (rs := [8]) Z130 (by simp) (al8 (fun K hK => ?_) (AllReadyL.nil))
      focus go_simp
      refine hK.out _ _ (fun h => absurd rfl h) (fun _ => ?_)
      focus (clear hK K; refine Zp13 ?_)
      refine wpAnyL_done Z130 ?_ _; rotate_left 1
      all_goals (
       go_wp2
       refine ⟨⟨j + 1, HJ.out, congrArg (Value.int .i64) EW.out, HBR.out.drew⟩, ?_⟩
       rw [EW.out]
       simp only [intOf, Int.toNat_natCast]
       exact meas_lt HJ.out)
     ·have e1 : ((j : Int) < (bv.length : Int)) = False := eq_false (by omega)
      have HBR := Lib.hid hbr
      clear hj hjl hbr
      go_wp2
      go_ret
      exact ⟨by first | rfl | simp, HB9.out.trans (HBR.out.mono HB9.out.size)⟩
   ·clear h3 h4
    rcases h1 with rfl | rfl
    ·skip
     go_wp2
     go_loopw [17] (fun v17 wr => ∃ j : Nat, j ≤ bv.length ∧ v17 = .int .i64 j ∧ Below w8.heap.size w8 wr) (fun v17 _ => bv.length - (intOf v17).toNat)
     case atStart => exact ⟨0, Nat.zero_le _, rfl, Below.refl _ _⟩
     case round =>
      obtain ⟨j, hj, rfl, hbr⟩ := hrel
      by_cases hjl : j < bv.length
      ·have e1 : ((j : Int) < (bv.length : Int)) = True := eq_true (by omega)
       obtain ⟨ad, rfl, q0⟩ := i64_at (Kd.C_below HCP8.out.2 hbr) hjl
       obtain ⟨ad', rfl, q1⟩ := i64_at (Kd.C_below HCQ.out.2 hbr) hjl
       obtain ⟨y, hy⟩ : ∃ y, bv[j] = y := ⟨_, rfl⟩
       rw [hy] at q0 q1
       have HCC := Lib.hid (show Cells [(ad.add j, .int .i64 y), (ad'.add j, .int .i64 y)] wr from ⟨q0, q1, trivial⟩)
       have EW := Lib.hid (wrapj (show j + 1 < 9223372036854775808 by have := Kd.C_max HCP8.out.2; omega))
       have HBR := Lib.hid hbr
       have HJ := Lib.hid hjl
       clear hy hj hjl hbr q0 q1
       go_wp2_with fail
       refine wp_region_L 8 (Cells _) Z130 (HCC.out.keep (Below.refl _ _).drew) (fun hHeld => ?_)
       refine tl0 ?_ Z131 (by rfl) (fun _ _ _ => id) ?_ (by assumption) ?_; rotate_left 1; (focus exact Z13a); focus try simp only [Act.put, List.setIfInBounds_toArray, List.set_cons_zero, List.set_cons_succ]
       refine tl1 ?_ Z131 (by rfl) (fun _ _ _ => id) ?_ (by assumption) ?_; rotate_left 1; (focus exact Z13a); focus try simp only [Act.put, List.setIfInBounds_toArray, List.set_cons_zero, List.set_cons_succ]
       refine tl2 ?_ Z131 (by rfl) (fun _ _ _ => id) ?_ (by assumption) ?_; rotate_left 1; (focus exact Z13a); focus try simp only [Act.put, List.setIfInBounds_toArray, List.set_cons_zero, List.set_cons_succ]
       refine tl3 ?_ Z131 (by rfl) (fun _ _ _ => id) ?_ (by assumption) ?_; rotate_left 1; (focus exact Z13a); focus try simp only [Act.put, List.setIfInBounds_toArray, List.set_cons_zero, List.set_cons_succ]
       refine tl4 ?_ Z131 (by rfl) (fun _ _ _ => id) ?_ (by assumption) ?_; rotate_left 1; (focus exact Z13a); focus try simp only [Act.put, List.setIfInBounds_toArray, List.set_cons_zero, List.set_cons_succ]
       refine tl5 ?_ Z131 (by rfl) (fun _ _ _ => id) ?_ (by assumption) ?_; rotate_left 1; (focus exact Z13a); focus try simp only [Act.put, List.setIfInBounds_toArray, List.set_cons_zero, List.set_cons_succ]
       refine tl6 ?_ Z131 (by rfl) (fun _ _ _ => id) ?_ (by assumption) ?_; rotate_left 1; (focus exact Z13a); focus try simp only [Act.put, List.setIfInBounds_toArray, List.set_cons_zero, List.set_cons_succ]
       refine tl7 ?_ Z131 (by rfl) (fun _ _ _ => id) ?_ (by assumption) ?_; rotate_left 1; (focus exact Z13a); focus try simp only [Act.put, List.setIfInBounds_toArray, List.set_cons_zero, List.set_cons_succ]
       refine wpAnyL_ready (rs := [8]) Z130 (by simp) (al8 (fun K hK => ?_) (AllReadyL.nil))
       focus go_simp
       refine hK.out _ _ (fun h => absurd rfl h) (fun _ => ?_)
       focus (clear hK K; refine Zp13 ?_)
       refine wpAnyL_done Z130 ?_ _; rotate_left 1
       all_goals (
        go_wp2
        refine ⟨⟨j + 1, HJ.out, congrArg (Value.int .i64) EW.out, HBR.out.drew⟩, ?_⟩
        rw [EW.out]
        simp only [intOf, Int.toNat_natCast]
        exact meas_lt HJ.out)
      ·have e1 : ((j : Int) < (bv.length : Int)) = False := eq_false (by omega)
       have HBR := Lib.hid hbr
       clear hj hjl hbr
       go_wp2
       go_ret
       exact ⟨by first | rfl | simp, HB8.out.trans (HBR.out.mono HB8.out.size)⟩
    ·skip
     go_wp2
     go_loopw [17] (fun v17 wr => ∃ j : Nat, j ≤ bv.length ∧ v17 = .int .i64 j ∧ Below w8.heap.size w8 wr) (fun v17 _ => bv.length - (intOf v17).toNat)
     case atStart => exact ⟨0, Nat.zero_le _, rfl, Below.refl _ _⟩
     case round =>
      obtain ⟨j, hj, rfl, hbr⟩ := hrel
      by_cases hjl : j < bv.length
      ·have e1 : ((j : Int) < (bv.length : Int)) = True := eq_true (by omega)
       obtain ⟨ad, rfl, q0⟩ := i64_at (Kd.C_below HCP8.out.2 hbr) hjl
       obtain ⟨ad', rfl, q1⟩ := i64_at (Kd.C_below HCQ.out.2 hbr) hjl
       obtain ⟨y, hy⟩ : ∃ y, bv[j] = y := ⟨_, rfl⟩
       rw [hy] at q0 q1
       have HCC := Lib.hid (show Cells [(ad.add j, .int .i64 y), (ad'.add j, .int .i64 y)] wr from ⟨q0, q1, trivial⟩)
       have EW := Lib.hid (wrapj (show j + 1 < 9223372036854775808 by have := Kd.C_max HCP8.out.2; omega))
       have HBR := Lib.hid hbr
       have HJ := Lib.hid hjl
       clear hy hj hjl hbr q0 q1
       go_wp2_with fail
       refine wp_region_L 8 (Cells _) Z130 (HCC.out.keep (Below.refl _ _).drew) (fun hHeld => ?_)
       refine tl0 ?_ Z131 (by rfl) (fun _ _ _ => id) ?_ (by assumption) ?_; rotate_left 1; (focus exact Z13a); focus try simp only [Act.put, List.setIfInBounds_toArray, List.set_cons_zero, List.set_cons_succ]
       refine tl1 ?_ Z131 (by rfl) (fun _ _ _ => id) ?_ (by assumption) ?_; rotate_left 1; (focus exact Z13a); focus try simp only [Act.put, List.setIfInBounds_toArray, List.set_cons_zero, List.set_cons_succ]
       refine tl2 ?_ Z131 (by rfl) (fun _ _ _ => id) ?_ (by assumption) ?_; rotate_left 1; (focus exact Z13a); focus try simp only [Act.put, List.setIfInBounds_toArray, List.set_cons_zero, List.set_cons_succ]
       refine tl3 ?_ Z131 (by rfl) (fun _ _ _ => id) ?_ (by assumption) ?_; rotate_left 1; (focus exact Z13a); focus try simp only [Act.put, List.setIfInBounds_toArray, List.set_cons_zero, List.set_cons_succ]
       refine tl4 ?_ Z131 (by rfl) (fun _ _ _ => id) ?_ (by assumption) ?_; rotate_left 1; (focus exact Z13a); focus try simp only [Act.put, List.setIfInBounds_toArray, List.set_cons_zero, List.set_cons_succ]
       refine tl5 ?_ Z131 (by rfl) (fun _ _ _ => id) ?_ (by assumption) ?_; rotate_left 1; (focus exact Z13a); focus try simp only [Act.put, List.setIfInBounds_toArray, List.set_cons_zero, List.set_cons_succ]
       refine tl6 ?_ Z131 (by rfl) (fun _ _ _ => id) ?_ (by assumption) ?_; rotate_left 1; (focus exact Z13a); focus try simp only [Act.put, List.setIfInBounds_toArray, List.set_cons_zero, List.set_cons_succ]
       refine tl7 ?_ Z131 (by rfl) (fun _ _ _ => id) ?_ (by assumption) ?_; rotate_left 1; (focus exact Z13a); focus try simp only [Act.put, List.setIfInBounds_toArray, List.set_cons_zero, List.set_cons_succ]
       refine wpAnyL_ready (rs := [8]) Z130 (by simp) (al8 (fun K hK => ?_) (AllReadyL.nil))
       focus go_simp
       refine hK.out _ _ (fun h => absurd rfl h) (fun _ => ?_)
       focus (clear hK K; refine Zp13 ?_)
       refine wpAnyL_done Z130 ?_ _; rotate_left 1
       all_goals (
        go_wp2
        refine ⟨⟨j + 1, HJ.out, congrArg (Value.int .i64) EW.out, HBR.out.drew⟩, ?_⟩
        rw [EW.out]
        simp only [intOf, Int.toNat_natCast]
        exact meas_lt HJ.out)
      ·have e1 : ((j : Int) < (bv.length : Int)) = False := eq_false (by omega)
       have HBR := Lib.hid hbr
       clear hj hjl hbr
       go_wp2
       go_ret
       exact ⟨by first | rfl | simp, HB8.out.trans (HBR.out.mono HB8.out.size)⟩
end Go.Proofs.Ytmcfcmijopbinaa.Ln
