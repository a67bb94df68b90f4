import Derived.Test.YtbpjnkeilhfajaaGreatTl
import Derived.Test.YtbpjnkeilhfajaaGreatRfG
import Derived.Test.YtbpjnkeilhfajaaGreatLinW
import Derived.Test.YtbpjnkeilhfajaaGreatRwS
import Derived.OwnWalk
import Derived.Laws.MakeOwn
import Derived.Test.YtbpjnkeilhfajaaGreatLnD
section
/- ashlarref12.Check: it answers what whole.Check does. -/
namespace Go.Proofs
theorem Zp3k {p q : Prop} (hq : q) (h : p = q := by first | (simp only [Act.put, List.setIfInBounds_toArray, List.set_cons_zero, List.set_cons_succ]; done) | (simp only [Act.put, List.setIfInBounds_toArray, List.set_cons_zero, List.set_cons_succ]; rfl) | rfl) : p := Eq.mpr h hq
end Go.Proofs
namespace Go.Proofs.YtbpjnkeilhfajaaGreat.Rw
open Go.RowKit Go.Proofs.YtbpjnkeilhfajaaGreat.Given Go.Proofs.YtbpjnkeilhfajaaGreatW.PrintWords Go.Proofs.YtbpjnkeilhfajaaGreat.Dig Go.Proofs.YtbpjnkeilhfajaaGreat.DigNumReckons Go.Proofs.YtbpjnkeilhfajaaGreat.Num Go.Proofs.YtbpjnkeilhfajaaGreat.Big Go.Proofs.YtbpjnkeilhfajaaGreat.Ln Go.Proofs.YtbpjnkeilhfajaaGreat.Lin
set_option linter.unusedVariables false
set_option linter.unusedSimpArgs false
def okE (o : Option Int) : Bool := match o with
 | some s => decide (s ≤ 0)
 | none => false
theorem holdW_eq (r : RowZ) (p : List Int) : holdW r p = okE (weighF r.1 p r.2) := rfl
set_option maxHeartbeats 16000000 in
set_option maxRecDepth 100000 in
theorem check12_any (l : List S40) (p : List Int) (A A' : Option Addr) (c c' : Nat) (w : World) (hC : Kd.C k40 w A l.length l) (hP : (Kd.int .i64).C w A' p.length p) (hin : ∀ r, r ∈ l → RowIn r) (hpn : ∀ y, y ∈ p → In64 y) :
  Calls Tryz.prog 29 #[.slice A l.length c, .slice A' p.length c'] w fun e w' => e = .returned (.bool (chkW (l.map toZ) p)) ∧ Below w.heap.size w w' := by
 obtain ⟨res, hres⟩ : ∃ res, chkW (l.map toZ) p = res := ⟨_, rfl⟩
 rw [hres]
 have HC := Lib.hid hC
 have HP := Lib.hid hP
 have HIN := Lib.hid hin
 have HPN := Lib.hid hpn
 have HRES := Lib.hid hres
 clear hC hP hin hpn hres
 go_enter Tryz.func29, Tryz.ntmps29
 go_wp2
 go_loopw [5] (fun v5 wr => ∃ i : Nat, i ≤ l.length ∧ v5 = .int .i64 i ∧ chkW ((l.drop i).map toZ) p = res ∧ Below w.heap.size w wr) (fun v5 _ => l.length - (intOf v5).toNat)
 case atStart => exact ⟨0, Nat.zero_le _, rfl, HRES.out, Below.refl _ _⟩
 case round =>
  obtain ⟨i, hi, rfl, hres, hbr⟩ := hrel
  by_cases hil : i < l.length
  ·have e1 : ((i : Int) < (l.length : Int)) = True := eq_true (by omega)
   have e1' : (i < l.length) = True := eq_true hil
   obtain ⟨ad, A0, c0, rfl, z0, z1, hc0, hrow⟩ := row_at HC.out hil
   rw [List.drop_eq_getElem_cons hil, List.map_cons] at hres
   have hrin := HIN.out _ (List.getElem_mem hil)
   obtain ⟨r, hr⟩ : ∃ r, l[i] = r := ⟨_, rfl⟩
   rw [hr] at z0 z1 hc0 hrow hres hrin
   have q0 := kcell hbr z0
   have q1 := kcell hbr z1
   have hi63 : i < 9223372036854775807 := by have := Kd.C_max HC.out; omega
   have EW := Lib.hid (wrapj (show i + 1 < 9223372036854775808 by omega))
   have hres' : (decide (r.f0.length = p.length) && holdW (toZ r) p && chkW ((l.drop (i + 1)).map toZ) p) = res := hres
   have HRES2 := Lib.hid hres'
   have HROW := Lib.hid hrow
   have HRIN := Lib.hid hrin
   have HBR := Lib.hid hbr
   have HII := Lib.hid (And.intro hi hil)
   clear hres hres' hrow hrin hbr hi hil hr hi63
   by_cases hl : r.f0.length = p.length
   ·rw [hl] at q0 z0
    have HL := Lib.hid hl
    have hr2 := HRES2.out
    rw [decide_eq_true hl, Bool.true_and] at hr2
    obtain ⟨o, ho⟩ : ∃ o, weighF r.f0 p r.f1 = o := ⟨_, rfl⟩
    rw [holdW_eq, show weighF (toZ r).1 p (toZ r).2 = o from ho] at hr2
    have HR2 := Lib.hid hr2
    have HO := Lib.hid ho
    have HLP := Lib.hid (show p.length ≤ 9223372036854775807 by have := Kd.C_max HP.out; omega)
    clear hl hr2 ho
    go_wp2
    obtain ⟨wo, hwo⟩ : ∃ wo, wo = wr := ⟨_, rfl⟩
    subst hwo
    go_loopw [6, 7] (fun v6 v7 wq => ∃ (j : Nat) (s : Int), j ≤ p.length ∧ v6 = .int .i64 s ∧ v7 = .int .i64 j ∧ In64 s ∧ weighF (r.f0.drop j) (p.drop j) s = o ∧ Below w.heap.size w wq) (fun _ v7 _ => p.length - (intOf v7).toNat)
    case atStart => exact ⟨0, r.f1, Nat.zero_le _, rfl, rfl, HRIN.out.1, by rw [List.drop_zero, List.drop_zero]; exact HO.out, HBR.out⟩
    case round =>
     obtain ⟨j, s, hj, rfl, rfl, hs, hw, hbq⟩ := hrel
     clear q0 q1
     have q0 := kcell hbq z0
     have q1 := kcell hbq z1
     by_cases hjl : j < p.length
     ·have e3 : (j < p.length) = True := eq_true hjl
      have e3' : ((j : Int) < (p.length : Int)) = True := eq_true (by omega)
      have hjr : j < r.f0.length := by rw [HL.out]; exact hjl
      obtain ⟨ar, rfl, s0⟩ := i64_at HROW.out hjr
      obtain ⟨ap, rfl, s1⟩ := i64_at HP.out hjl
      replace s0 := kcell hbq s0
      replace s1 := kcell hbq s1
      have hx := HRIN.out.2 _ (List.getElem_mem hjr)
      have hy := HPN.out _ (List.getElem_mem hjl)
      rw [List.drop_eq_getElem_cons hjr, List.drop_eq_getElem_cons hjl, weighF] at hw
      obtain ⟨x, hxe⟩ : ∃ x, r.f0[j] = x := ⟨_, rfl⟩
      obtain ⟨y, hye⟩ : ∃ y, p[j] = y := ⟨_, rfl⟩
      rw [hxe] at s0 hx hw
      rw [hye] at s1 hy hw
      obtain ⟨pv, one, hpv⟩ : ∃ a b, fitp (x * y) = (a, b) := ⟨_, _, rfl⟩
      obtain ⟨sv, two, hsv⟩ : ∃ a b, fitp (s + pv) = (a, b) := ⟨_, _, rfl⟩
      have hpi := fitp_in hpv
      have hsi := fitp_in hsv
      have HX := Lib.hid (And.intro hx hy)
      have HV := Lib.hid (And.intro hpv hsv)
      have HI := Lib.hid (And.intro hs (And.intro hpi hsi))
      have HW := Lib.hid hw
      have HJ := Lib.hid (And.intro hj hjl)
      have HBQ := Lib.hid hbq
      have EWj := Lib.hid (wrapj (show j + 1 < 9223372036854775808 by have := HLP.out; omega))
      have HC0 := Lib.hid (show Cells [(ad.add (i * 2), .slice (some ar) p.length c0), (ar.add j, .int .i64 x), (ap.add j, .int .i64 y)] wr from ⟨q0, s0, s1, trivial⟩)
      clear hxe hye hx hy hpv hsv hpi hsi hw hj hjl hjr hbq hs s0 s1
      go_wp2_with fail
      refine wp_region_L 20 (Hd _ wr wr.heap.size) (by kernel_rfl) (⟨Nat.le_refl _, HC0.out.keep (Below.refl _ _).drew, (Below.refl _ _).drew⟩) (fun hHeld => ?_)
      refine tl0.go ?_
      refine tl1.go ?_
      refine tl2.go ?_
      refine tl3.go ?_
      refine tl4.go ?_
      refine tl5.go ?_
      refine tl6.go ?_
      refine tl7.go ?_
      refine tl9.go ?_
      refine tl10.go ?_
      refine tl11.go ?_
      refine tl12.go ?_
      refine wpAnyL_ready (rs := [8]) (by kernel_rfl) (by simp) (al8 (fun K hK => ?_) (AllReadyL.nil))
      focus go_simp
      focus (refine (Of_big HX.out.1 _).mono ?_; rintro e w2 ⟨A1, n1, c1, rfl, hR1, hb2⟩; have HR1 := Lib.hid hR1)
      focus try simp only []
      refine hK.out _ _ (fun _ => ?_) (fun hHeld => ?_)
      ·exact hHeld.keep hb2
      focus (have hHeld := hHeld (by decide); clear hK K; refine Zp3k ?_)
      refine wpAnyL_ready (rs := [13]) (by kernel_rfl) (by simp) (al13 (fun K hK => ?_) (AllReadyL.nil))
      focus go_simp
      focus (refine (Of_big HX.out.2 _).mono ?_; rintro e w2 ⟨A2, n2, c2, rfl, hR2, hb2⟩; have HR1 := Lib.hid (HR1.out.below hb2); have HR2' := Lib.hid hR2)
      focus try simp only []
      refine hK.out _ _ (fun _ => ?_) (fun hHeld => ?_)
      ·exact hHeld.keep hb2
      focus (have hHeld := hHeld (by decide); clear hK K; refine Zp3k ?_)
      refine wpAnyL_ready (rs := [14]) (by kernel_rfl) (by simp) (al14 (fun K hK => ?_) (AllReadyL.nil))
      focus go_simp
      focus (refine (Times_big _ HR1.out HR2'.out (len1 HX.out.1) (len1 HX.out.2)).mono ?_; rintro e w2 ⟨A3, n3, c3, rfl, hR3, hb2⟩; have HR3 := Lib.hid hR3)
      focus try simp only []
      refine hK.out _ _ (fun _ => ?_) (fun hHeld => ?_)
      ·exact hHeld.keep hb2
      focus (have hHeld := hHeld (by decide); clear hK K; refine Zp3k ?_)
      refine al15.ret (Int_big _ HR3.out (len2 HX.out.1 HX.out.2) (dn_abs _) HV.out.1) (fun w2 hb2 hHeld => ?_); (try have HP := hp_keep HP hb2); (try have HL := rl_keep HL hb2); (try have HI := ri_keep HI hb2)
      refine tl16.go ?_
      refine tl17.go ?_
      refine tl18.go ?_
      refine tl19.go ?_
      refine wpAnyL_ready (rs := [20]) (by kernel_rfl) (by simp) (al20 (fun K hK => ?_) (AllReadyL.nil))
      focus go_simp
      refine hK.out _ _ (fun h => absurd rfl h) (fun _ => ?_)
      focus (clear hK K; refine Zp3k ?_)
      refine wpAnyL_done (by kernel_rfl) ?_ _; rotate_left 1
      have HB1 := Lib.hid (HBQ.out.trans (hHeld.below.mono HBQ.out.size))
      clear hHeld hb2 HR1 HR2' HR3
      go_wp2_with fail
      refine (Of_big HI.out.1 _).mono ?_
      rintro e w3 ⟨A4, n4, c4, rfl, hR4, hb4⟩
      go_wp2_with fail
      refine (Of_big HI.out.2.1 _).mono ?_
      rintro e w4 ⟨A5, n5, c5, rfl, hR5, hb5⟩
      go_wp2_with fail
      refine (Plus_big _ (hR4.below hb5) hR5 (len1 HI.out.1) (len1 HI.out.2.1)).mono ?_
      rintro e w5 ⟨A6, n6, c6, rfl, hR6, hb6⟩
      go_wp2_with fail
      refine (Int_big _ hR6 (add_len HI.out.1 HI.out.2.1) (dn_abs _) HV.out.2).mono ?_
      rintro e w6 ⟨rfl, hb7⟩
      have HB2 := Lib.hid (HB1.out.trans ((((hb4.trans (hb5.mono hb4.size)).trans (hb6.mono (hb4.trans (hb5.mono hb4.size)).size)).trans (hb7.mono ((hb4.trans (hb5.mono hb4.size)).trans (hb6.mono (hb4.trans (hb5.mono hb4.size)).size)).size)).mono HB1.out.size))
      have hw := HW.out
      rw [okI_of HV.out.1] at hw
      clear hR4 hR5 hR6 hb4 hb5 hb6 hb7 HB1
      cases one
      ·rw [if_neg (by decide), Option.bind_none] at hw
       subst hw
       have hr2 := HR2.out
       rw [show okE none = false from rfl, Bool.false_and] at hr2
       subst hr2
       go_wp2
       go_ret
       exact ⟨rfl, HB2.out⟩
      ·rw [if_pos rfl, Option.bind_some, okI_of HV.out.2] at hw
       cases two
       ·rw [if_neg (by decide), Option.bind_none] at hw
        subst hw
        have hr2 := HR2.out
        rw [show okE none = false from rfl, Bool.false_and] at hr2
        subst hr2
        go_wp2
        go_ret
        exact ⟨rfl, HB2.out⟩
       ·rw [if_pos rfl, Option.bind_some] at hw
        have HW2 := Lib.hid hw
        clear hw
        go_wp2
        refine ⟨⟨j + 1, sv, HJ.out.2, rfl, congrArg (Value.int .i64) EWj.out, HI.out.2.2, HW2.out, HB2.out⟩, ?_⟩
        rw [EWj.out]
        simp only [intOf, Int.toNat_natCast]
        exact meas_lt HJ.out.2
     ·obtain rfl : j = p.length := by omega
      rw [List.drop_length, List.drop_of_length_le (Nat.le_of_eq HL.out)] at hw
      have hw' : some s = o := hw
      subst hw'
      have HBQ := Lib.hid hbq
      clear hw hbq hs
      by_cases h0 : s ≤ 0
      ·have hr2 := HR2.out
       rw [show okE (some s) = true from decide_eq_true h0, Bool.true_and] at hr2
       have HR3 := Lib.hid hr2
       have e5 : (0 < s) = False := eq_false (by omega)
       clear hr2 h0
       go_wp2
       refine ⟨⟨i + 1, HII.out.2, congrArg (Value.int .i64) EW.out, HR3.out, HBQ.out⟩, ?_⟩
       rw [EW.out]
       simp only [intOf, Int.toNat_natCast]
       exact meas_lt HII.out.2
      ·have hr2 := HR2.out
       rw [show okE (some s) = false from decide_eq_false h0, Bool.false_and] at hr2
       subst hr2
       have e5 : (0 < s) = True := eq_true (by omega)
       clear h0
       go_wp2
       go_ret
       exact ⟨rfl, HBQ.out⟩
   ·have hr2 := HRES2.out
    rw [decide_eq_false hl, Bool.false_and, Bool.false_and] at hr2
    subst hr2
    have e2 : (r.f0.length == p.length) = false := by simp [hl]
    clear hl
    go_wp2
    go_ret
    exact ⟨rfl, HBR.out⟩
  ·obtain rfl : i = l.length := by omega
   rw [List.drop_length, List.map_nil] at hres
   have hres' : true = res := hres
   subst hres'
   have HBR := Lib.hid hbr
   clear hres hbr
   go_wp2
   go_ret
   exact ⟨rfl, HBR.out⟩
end Go.Proofs.YtbpjnkeilhfajaaGreat.Rw
end

section
/- ashlarlaw12.box, walked. -/
namespace Go.Proofs.YtbpjnkeilhfajaaGreat.Rw
open Go.RowKit Go.Proofs.YtbpjnkeilhfajaaGreat.Given Go.Proofs.YtbpjnkeilhfajaaGreatW.PrintWords Go.Proofs.YtbpjnkeilhfajaaGreatW.PrintLast Go.Proofs.YtbpjnkeilhfajaaGreat.Num Go.Proofs.YtbpjnkeilhfajaaGreat.Ln Go.Proofs.YtbpjnkeilhfajaaGreat.Lin
set_option linter.unusedVariables false
set_option linter.unusedSimpArgs false
theorem wpList_makeI {W : World} {ops : Array Oper} {rest : List Oper} {o : Oper} {a : Act} {Q : Exit → Act → World → Prop} (hgd : o.guard = none) (s x : Operand) (ho : o.op = .makeSlice 23 s x)
  (base n : Nat) (hs : a.eval s = .int .i64 (n : Int)) (hx : a.eval x = .int .i64 (n : Int)) (hn : n ≤ 1000000) (hbase : base ≤ W.heap.size)
  (h : ∀ w', Hid (RowI w' base (.slice (some ⟨W.heap.size, 0, none⟩) n n) (List.replicate n 0)) → Hid (Below W.heap.size W w') → wpList Tryz.prog ops Q rest (a.put o.dst (.slice (some ⟨W.heap.size, 0, none⟩) n n)) w') : wpList Tryz.prog ops Q (o :: rest) a W := by
 obtain ⟨i, h2, h3, h4, h5⟩ := info_parts infoI3
 refine wpList_make_full W hgd s x _ ho base 2 i (.int .i64 0) 1 Tryz.underlying23 h2 h3 h4 .i64 .i64 _ _ n hs hx rfl rfl (by rw [h5]; omega) (by unfold maxLen; omega) hbase (fun w' hown hg => ?_)
 refine h w' (Lib.hid ?_) (Lib.hid (Below.grown (Below.refl _ _) hg (Nat.le_refl _) (fun k hk => by cases hk)))
 unfold RowI
 rw [List.length_replicate]
 have e : (madeCells (Value.int .i64 0).cells (n * 1)).toList = intv (List.replicate n 0) := by
  rw [Nat.mul_one, show (Value.int .i64 0).cells = #[.int .i64 0] from rfl, toList_madeCells_one]
  simp [intv]
 rw [← e]
 exact hown
theorem rowI_cell {w : World} {base g n c : Nat} {l : List Int} (h : RowI w base (.slice (some ⟨g, 0, none⟩) n c) l) {i : Nat} (hi : i < n) : ∃ x, w.cell? ⟨g, i, none⟩ = some (.int .i64 x) ∧ w.frozen? ⟨g, i, none⟩ = false ∧ base ≤ g ∧ g < w.heap.size := by
 obtain ⟨hl, hv⟩ := h
 rcases hv with ⟨h1, _⟩ | ⟨g', cap, cur, e, hg, hb, hn, hm, hs, ht⟩
 ·cases h1
 ·injection e with e1 e2 e3
  injection e1 with e1
  injection e1 with e1
  subst e1
  have a : (intv l)[i]? = some (.int .i64 (l[i]'(by omega))) := by unfold intv; rw [List.getElem?_map, List.getElem?_eq_getElem (by omega)]; rfl
  rw [← ht, List.getElem?_take] at a
  split at a
  ·exact ⟨_, by rw [cell_of_row w g _ cur _ (0, 0) hb]; simpa using a, by simp [World.frozen?, hb], hg, blk_lt hb⟩
  ·cases a
theorem rowI_set {w : World} {base g n c : Nat} {l : List Int} (h : RowI w base (.slice (some ⟨g, 0, none⟩) n c) l) (i : Nat) (x : Int) : RowI (w.setCell ⟨g, i, none⟩ (.int .i64 x)) base (.slice (some ⟨g, 0, none⟩) n c) (l.set i x) := by
 obtain ⟨hl, hv⟩ := h
 refine ⟨by simp [intv], ?_⟩
 rcases hv with ⟨h1, _⟩ | ⟨g', cap', cur, e, hg, hb, hn, hm, hs, ht⟩
 ·cases h1
 ·injection e with e1 e2 e3
  injection e1 with e1
  injection e1 with e1
  subst e1 e2 e3
  refine .inr ⟨g, c, cur.setIfInBounds i (.int .i64 x), by rw [List.length_set], hg, blk_put hb _ _ rfl, by rw [List.length_set]; exact hn, hm, by simpa using hs, ?_⟩
  have e : intv (l.set i x) = (intv l).set i (.int .i64 x) := by unfold intv; rw [List.map_set]
  rw [List.length_set, e, ← ht]
  simp only [Array.toList_setIfInBounds, List.take_set]
theorem rowI_ne {w : World} {base : Nat} {v : Value} {l : List Int} (h : RowI w base v l) {g i : Nat} (hg : v.ownBlock ≠ some g) (u : Value) : RowI (w.setCell ⟨g, i, none⟩ u) base v l := own_far h hg u
theorem rowI_low {w : World} {base : Nat} {v : Value} {l : List Int} (h : RowI w base v l) : RowI w 0 v l := by
 obtain ⟨hl, hv⟩ := h
 refine ⟨hl, ?_⟩
 rcases hv with h | ⟨g', cap, cur, rfl, h1, h2⟩
 ·exact .inl h
 ·exact .inr ⟨g', cap, cur, rfl, Nat.zero_le _, h2⟩
theorem BxR.far {w : World} {g g' i : Nat} {x y u : Value} (h : BxR w g x y) (hne : g ≠ g') : BxR (w.setCell ⟨g', i, none⟩ u) g x y := blk_far h (p := ⟨g', i, none⟩) hne u
def unitR (n i : Nat) (s : Int) : S40 := ⟨(List.replicate n 0).set i s, -3⟩
def boxL (n : Nat) : Nat → List S40
 | 0 => []
 | m + 1 => boxL n m ++ [unitR n m 1, unitR n m (-1)]
theorem boxL_len (n : Nat) : ∀ m, (boxL n m).length = 2 * m
 | 0 => rfl
 | m + 1 => by rw [boxL, List.length_append, boxL_len n m]; simp; omega
set_option maxHeartbeats 8000000 in
set_option maxRecDepth 100000 in
theorem box12_any (n : Nat) (w : World) (hn : n ≤ 3) :
  Calls Tryz.prog 33 #[.int .i64 n, .int .i64 3] w fun e w' => ∃ v raws, e = .returned v ∧ RowsO w' w.heap.size v (boxL n n) raws ∧ Below w.heap.size w w' := by
 have HN := Lib.hid hn
 clear hn
 go_enter Tryz.func33, Tryz.ntmps33
 go_wp2
 go_loopw [5, 6] (fun v5 v6 wr => ∃ (i : Nat) (raws : List Value), i ≤ n ∧ v6 = .int .i64 i ∧ Hid (RowsO wr w.heap.size v5 (boxL n i) raws) ∧ Hid (Below w.heap.size w wr)) (fun _ v6 _ => n - (intOf v6).toNat)
 case atStart => exact ⟨0, [], Nat.zero_le _, rfl, Lib.hid RowsO.nil, Lib.hid (Below.refl _ _)⟩
 case round =>
  obtain ⟨i, raws, hi, rfl, HO, HB⟩ := hrel
  by_cases hin : i < n
  ·have e1 : (i < n) = True := eq_true hin
   have HI := Lib.hid (And.intro hi hin)
   have EWi := Lib.hid (wrapj (show i + 1 < 9223372036854775808 by have := HN.out; omega))
   have HBL := Lib.hid (boxL_len n i)
   clear hi hin
   go_wp2_with (at_make; refine Hid.out ?_)
   refine Lib.hid ?_
   refine wpList_makeI rfl (.tmp 14) (.tmp 14) rfl wr.heap.size n rfl rfl (by have := HN.out; omega) (Nat.le_refl _) ?_
   intro w1 HR1 HB1
   go_wp2_with (at_make; refine Hid.out ?_)
   refine Lib.hid ?_
   refine wpList_makeI rfl (.tmp 19) (.tmp 19) rfl wr.heap.size n rfl rfl (by have := HN.out; omega) (Nat.le_trans HB1.out.size (by simp)) ?_
   intro w2 HR2 HB2
   obtain ⟨g1, hg1⟩ : ∃ g, wr.heap.size = g := ⟨_, rfl⟩
   obtain ⟨g7, hg7⟩ : ∃ g, w1.heap.size = g := ⟨_, rfl⟩
   have hg2 : (w1.alloc (.cells #[.slice (some ⟨wr.heap.size, 0, none⟩) n n, .int .i64 (-3)] 40)).heap.size = g7 + 1 := by simp [hg7]
   rw [hg2] at HR2 HB2 ⊢
   have hb12 : Below w1.heap.size w1 w2 := ((Below.refl _ _).alloc (Nat.le_refl _) _).trans (HB2.out.mono (by omega))
   have hX7 : BxR w2 g7 (.slice (some ⟨wr.heap.size, 0, none⟩) n n) (.int .i64 (-3)) := BxR.keep (by rw [← hg7]; exact blk_new w1 _) HB2.out (Nat.lt_succ_self _)
   have hR1 := pw_own_below HR1.out hb12
   have hBW := HB1.out.trans (hb12.mono HB1.out.size)
   have h17 : wr.heap.size < w1.heap.size := by
    have h := (rowI_cell HR1.out (i := i) HI.out.2).choose_spec
    exact h.2.2.2
   have hR2 := HR2.out
   have h2s : g7 + 1 < w2.heap.size := (rowI_cell hR2 (i := i) HI.out.2).choose_spec.2.2.2
   have hO := HO.out
   rw [hg1] at hX7 hR1 h17 hR2 ⊢
   rw [hg7] at h17 ⊢
   have hBWs : wr.heap.size = g1 := hg1
   have HO2 := HO.out.below hBW
   have hWB : Below wr.heap.size wr (w2.alloc (.cells #[.slice (some ⟨g7 + 1, 0, none⟩) n n, .int .i64 (-3)] 40)) := hBW.alloc hBW.size _
   have h7 : BxR (w2.alloc (.cells #[.slice (some ⟨g7 + 1, 0, none⟩) n n, .int .i64 (-3)] 40)) g7 (.slice (some ⟨g1, 0, none⟩) n n) (.int .i64 (-3)) := blk_alloc hX7 _
   have h8 : BxR (w2.alloc (.cells #[.slice (some ⟨g7 + 1, 0, none⟩) n n, .int .i64 (-3)] 40)) w2.heap.size (.slice (some ⟨g7 + 1, 0, none⟩) n n) (.int .i64 (-3)) := blk_new _ _
   have r1 := pw_own_below hR1 ((Below.refl w2.heap.size w2).alloc (Nat.le_refl _) (.cells #[.slice (some ⟨g7 + 1, 0, none⟩) n n, .int .i64 (-3)] 40))
   have r2 := pw_own_below hR2 ((Below.refl w2.heap.size w2).alloc (Nat.le_refl _) (.cells #[.slice (some ⟨g7 + 1, 0, none⟩) n n, .int .i64 (-3)] 40))
   obtain ⟨_, a0, a1, -, -⟩ := rowI_cell r1 HI.out.2
   have s8 := h8.far (g' := g1) (i := i) (u := .int .i64 1) (by omega)
   have s2 := rowI_ne r2 (g := g1) (i := i) (fun e => by have e' : g7 + 1 = g1 := Option.some.inj e; omega) (.int .i64 1)
   obtain ⟨_, b0, b1, -, -⟩ := rowI_cell s2 HI.out.2
   have S1 := rowI_ne (rowI_set r1 i 1) (g := g7 + 1) (i := i) (fun e => by have e' : g1 = g7 + 1 := Option.some.inj e; omega) (.int .i64 (-1))
   have S2 := rowI_set s2 i (-1)
   have S7 := (h7.far (g' := g1) (i := i) (u := .int .i64 1) (by omega)).far (g' := g7 + 1) (i := i) (u := .int .i64 (-1)) (by omega)
   have S8 := s8.far (g' := g7 + 1) (i := i) (u := .int .i64 (-1)) (by omega)
   have SB := Lib.hid ((hWB.setCell (p := ⟨g1, i, none⟩) (by simp only []; omega) (.int .i64 1)).setCell (p := ⟨g7 + 1, i, none⟩) (by simp only []; omega) (.int .i64 (-1)))
   obtain ⟨c70, c71, -, -, -⟩ := S7.cells
   obtain ⟨c80, c81, -, -, -⟩ := S8.cells
   obtain ⟨d70, -, -, -, -⟩ := h7.cells
   obtain ⟨d80, -, -, -, -⟩ := s8.cells
   have HS1 := Lib.hid S1
   have HS2 := Lib.hid S2
   clear S1 S2 S7 S8 s8 s2 r1 r2 h7 h8 hWB hBWs HO2 hBW hX7 hR1 hR2 hb12 hO hg1 hg2 hg7 h17 h2s HR1 HR2 HB1 HB2
   go_wp2_with (at_builtin; refine Hid.out ?_)
   refine Lib.hid ?_
   clear c70 c71 c80 c81 d70 d80 a0 a1 b0 b1
   have hWs : (((w2.alloc (.cells #[.slice (some ⟨g7 + 1, 0, none⟩) n n, .int .i64 (-3)] 40)).setCell ⟨g1, i, none⟩ (.int .i64 1)).setCell ⟨g7 + 1, i, none⟩ (.int .i64 (-1))).heap.size = w2.heap.size + 1 := by simp
   generalize (((w2.alloc (.cells #[.slice (some ⟨g7 + 1, 0, none⟩) n n, .int .i64 (-3)] 40)).setCell ⟨g1, i, none⟩ (.int .i64 1)).setCell ⟨g7 + 1, i, none⟩ (.int .i64 (-1))) = W at HS1 HS2 SB hWs ⊢
   have HO2 := Lib.hid (HO.out.below SB.out)
   refine wpList_appRows rfl (.tmp 32) (.tmp 35) rfl w.heap.size _ _ [unitR n i 1, unitR n i (-1)] _ [.slice (some ⟨g1, 0, none⟩) n n, .int .i64 (-3), .slice (some ⟨g7 + 1, 0, none⟩) n n, .int .i64 (-3)] 2 rfl rfl HO2.out (by rw [hWs]; rfl) rfl ?_ (fun W' hW => Enc.app (encOne HS1.out hW) (encOne HS2.out hW)) (by rw [HBL.out]; have := HI.out.2; have := HN.out; omega) (HB.out.trans (SB.out.mono HB.out.size)).size ?_
   ·intro u hu
    simp only [List.mem_cons, List.not_mem_nil, or_false] at hu
    rcases hu with rfl | rfl | rfl | rfl <;> rfl
   intro v1 w5 HO1 HB5
   go_wp2
   refine ⟨⟨i + 1, _, HI.out.2, congrArg (Value.int .i64) EWi.out, HO1, Lib.hid ((HB.out.trans (SB.out.mono HB.out.size)).trans HB5.out)⟩, ?_⟩
   rw [EWi.out]
   simp only [intOf, Int.toNat_natCast]
   exact meas_lt HI.out.2
  ·have hin' : i = n := by omega
   subst i
   have e1 : (n < n) = False := eq_false (Nat.lt_irrefl _)
   clear hi hin
   go_wp2
   go_ret
   exact ⟨_, _, rfl, HO.out, HB.out⟩
end Go.Proofs.YtbpjnkeilhfajaaGreat.Rw
end

section
/- slices.IndexFunc, ContainsFunc at whole's closures. -/
namespace Go.Proofs.YtbpjnkeilhfajaaGreat.Ln
open Go.RowKit Go.Proofs.YtbpjnkeilhfajaaGreat.Num Go.Proofs.YtbpjnkeilhfajaaGreat.Given Go.Proofs.YtbpjnkeilhfajaaGreat.Lin Go.Proofs.YtbpjnkeilhfajaaGreatW.PrintWords
set_option linter.unusedVariables false
set_option linter.unusedSimpArgs false
set_option maxHeartbeats 8000000 in
set_option maxRecDepth 100000 in
theorem idxW (p : S28 → Bool) (l : List S28) (A : Option Addr) (c : Nat) (w0 w : World) (hC : Kd.C k28 w0 A l.length l) (hc : l.length ≤ c) (hB : Below w0.heap.size w0 w)
  (H : ∀ x, x ∈ l → ∀ (W : World), Below w.heap.size w W → Calls Tryz.prog 78 #[.agg #[.int .i64 x.f0, .int .i64 x.f1]] W fun e w' => e = .returned (.bool (p x)) ∧ Below W.heap.size W w') :
  Calls Tryz.prog 77 #[.slice A l.length c, .func (.func 78) #[] #[]] w fun e w' => e = .returned (.int .i64 (findP p l 0)) ∧ Below w.heap.size w w' := by
 have HC := Lib.hid hC
 have HB := Lib.hid hB
 have HX := Lib.hid H
 clear hC hB H
 go_enter Tryz.func77, Tryz.ntmps77
 go_wp2
 go_loopw [8] (fun v wr => ∃ j : Nat, j ≤ l.length ∧ v = .int .i64 j ∧ findP p l 0 = findP p (l.drop j) j ∧ Below w.heap.size w wr) (fun v _ => l.length - (intOf v).toNat)
 case atStart => exact ⟨0, Nat.zero_le _, rfl, by rw [List.drop_zero]; rfl, Below.refl _ _⟩
 case round =>
  obtain ⟨j, hj, rfl, hL, hbr⟩ := hrel
  by_cases hjl : j < l.length
  ·have hmax := Kd.C_max HC.out
   obtain ⟨ad, e, x0, x1⟩ := el_Q HC.out hjl
   have hbw : Below w0.heap.size w0 wr := HB.out.trans (hbr.mono HB.out.size)
   have hmem : l[j] ∈ l := List.getElem_mem hjl
   rw [List.drop_eq_getElem_cons hjl, findP] at hL
   generalize l[j] = x at *
   replace x0 := (hbw.cell (World.block_lt_of_cell? w0 _ x0)).trans x0
   replace x1 := (hbw.cell (World.block_lt_of_cell? w0 _ x1)).trans x1
   subst e
   have EW := Lib.hid (wrapj (succ_lt hjl hmax))
   have HL := Lib.hid hL
   have HBR := Lib.hid hbr
   clear hL hbr hbw hmax
   cases hxy : p x with
   | true =>
    have hl2 := HL.out
    rw [hxy, if_pos rfl] at hl2
    have HL2 := Lib.hid hl2
    clear hl2 HL
    have hx := HX.out x hmem wr HBR.out
    rw [hxy] at hx
    have HXX := Lib.hid hx
    clear hx
    go_wp2_with fail
    refine HXX.out.mono ?_
    rintro e w5 ⟨rfl, hb5⟩
    have HB5 := Lib.hid (HBR.out.trans (hb5.mono HBR.out.size))
    clear hb5
    go_wp2
    exact bodyPost_ret (v := .int .i64 (j : Int)) (by simp [results, Tryz.results77, go_sem]) rfl ⟨by rw [HL2.out], HB5.out⟩
   | false =>
    have hl2 := HL.out
    rw [hxy, if_neg (by decide)] at hl2
    have HL2 := Lib.hid hl2
    clear hl2 HL
    have hx := HX.out x hmem wr HBR.out
    rw [hxy] at hx
    have HXX := Lib.hid hx
    clear hx
    go_wp2_with fail
    refine HXX.out.mono ?_
    rintro e w5 ⟨rfl, hb5⟩
    have HB5 := Lib.hid (HBR.out.trans (hb5.mono HBR.out.size))
    clear hb5
    go_wp2
    refine ⟨⟨j + 1, hjl, congrArg (Value.int .i64) EW.out, HL2.out, HB5.out⟩, ?_⟩
    rw [EW.out]
    simp only [intOf, Int.toNat_natCast]
    exact meas_lt hjl
  ·have hjj : j = l.length := by omega
   subst hjj
   rw [List.drop_length, findP] at hL
   go_wp2
   exact bodyPost_ret (v := .int .i64 (-1)) (by simp [results, Tryz.results77, go_sem]) rfl ⟨by rw [hL], hbr⟩
set_option maxHeartbeats 8000000 in
set_option maxRecDepth 100000 in
theorem idxC (p : S40 → Bool) (l : List S40) (A : Option Addr) (c : Nat) (v : Value) (w0 w : World) (hC : Kd.C k40 w0 A l.length l) (hc : l.length ≤ c) (hB : Below w0.heap.size w0 w)
  (H : ∀ x, x ∈ l → ∀ (B : Option Addr) (d : Nat) (_ : x.f0.length ≤ d) (_ : (Kd.int .i64).C w0 B x.f0.length x.f0) (W : World), Below w.heap.size w W → Calls Tryz.prog 68 #[.agg #[.slice B x.f0.length d, .int .i64 x.f1], v] W fun e w' => e = .returned (.bool (p x)) ∧ Below W.heap.size W w') :
  Calls Tryz.prog 92 #[.slice A l.length c, .func (.func 68) #[] #[v]] w fun e w' => e = .returned (.int .i64 (findP p l 0)) ∧ Below w.heap.size w w' := by
 have HC := Lib.hid hC
 have HB := Lib.hid hB
 have HX := Lib.hid H
 clear hC hB H
 go_enter Tryz.func92, Tryz.ntmps92
 go_wp2
 go_loopw [8] (fun v wr => ∃ j : Nat, j ≤ l.length ∧ v = .int .i64 j ∧ findP p l 0 = findP p (l.drop j) j ∧ Below w.heap.size w wr) (fun v _ => l.length - (intOf v).toNat)
 case atStart => exact ⟨0, Nat.zero_le _, rfl, by rw [List.drop_zero]; rfl, Below.refl _ _⟩
 case round =>
  obtain ⟨j, hj, rfl, hL, hbr⟩ := hrel
  by_cases hjl : j < l.length
  ·have hmax := Kd.C_max HC.out
   obtain ⟨ad, B, d, e, x0, x1, l', C'⟩ := el_R HC.out hjl
   have hbw : Below w0.heap.size w0 wr := HB.out.trans (hbr.mono HB.out.size)
   have hmem : l[j] ∈ l := List.getElem_mem hjl
   rw [List.drop_eq_getElem_cons hjl, findP] at hL
   generalize l[j] = x at *
   replace x0 := (hbw.cell (World.block_lt_of_cell? w0 _ x0)).trans x0
   replace x1 := (hbw.cell (World.block_lt_of_cell? w0 _ x1)).trans x1
   subst e
   have EW := Lib.hid (wrapj (succ_lt hjl hmax))
   have HL := Lib.hid hL
   have HBR := Lib.hid hbr
   clear hL hbr hbw hmax
   cases hxy : p x with
   | true =>
    have hl2 := HL.out
    rw [hxy, if_pos rfl] at hl2
    have HL2 := Lib.hid hl2
    clear hl2 HL
    have hx := HX.out x hmem B d l' C' wr HBR.out
    rw [hxy] at hx
    have HXX := Lib.hid hx
    clear hx
    go_wp2_with fail
    refine HXX.out.mono ?_
    rintro e w5 ⟨rfl, hb5⟩
    have HB5 := Lib.hid (HBR.out.trans (hb5.mono HBR.out.size))
    clear hb5
    go_wp2
    exact bodyPost_ret (v := .int .i64 (j : Int)) (by simp [results, Tryz.results92, go_sem]) rfl ⟨by rw [HL2.out], HB5.out⟩
   | false =>
    have hl2 := HL.out
    rw [hxy, if_neg (by decide)] at hl2
    have HL2 := Lib.hid hl2
    clear hl2 HL
    have hx := HX.out x hmem B d l' C' wr HBR.out
    rw [hxy] at hx
    have HXX := Lib.hid hx
    clear hx
    go_wp2_with fail
    refine HXX.out.mono ?_
    rintro e w5 ⟨rfl, hb5⟩
    have HB5 := Lib.hid (HBR.out.trans (hb5.mono HBR.out.size))
    clear hb5
    go_wp2
    refine ⟨⟨j + 1, hjl, congrArg (Value.int .i64) EW.out, HL2.out, HB5.out⟩, ?_⟩
    rw [EW.out]
    simp only [intOf, Int.toNat_natCast]
    exact meas_lt hjl
  ·have hjj : j = l.length := by omega
   subst hjj
   rw [List.drop_length, findP] at hL
   go_wp2
   exact bodyPost_ret (v := .int .i64 (-1)) (by simp [results, Tryz.results92, go_sem]) rfl ⟨by rw [hL], hbr⟩
theorem anyC (p : S40 → Bool) (l : List S40) (A : Option Addr) (c : Nat) (v : Value) (w0 w : World) (hC : Kd.C k40 w0 A l.length l) (hc : l.length ≤ c) (hB : Below w0.heap.size w0 w)
  (H : ∀ x, x ∈ l → ∀ (B : Option Addr) (d : Nat) (_ : x.f0.length ≤ d) (_ : (Kd.int .i64).C w0 B x.f0.length x.f0) (W : World), Below w.heap.size w W → Calls Tryz.prog 68 #[.agg #[.slice B x.f0.length d, .int .i64 x.f1], v] W fun e w' => e = .returned (.bool (p x)) ∧ Below W.heap.size W w') :
  Calls Tryz.prog 44 #[.slice A l.length c, .func (.func 68) #[] #[v]] w fun e w' => e = .returned (.bool (l.any p)) ∧ Below w.heap.size w w' := by
 have HI := Lib.hid (idxC p l A c v w0 w hC hc hB H)
 have HP := Lib.hid (findP_any p l 0 (Int.le_refl _))
 clear hC hB H
 go_enter Tryz.func44, Tryz.ntmps44
 go_wp2_with fail
 refine HI.out.mono ?_
 rintro e w1 ⟨rfl, hb1⟩
 go_wp2
 go_ret
 exact ⟨by rw [← HP.out]; rfl, hb1⟩
end Go.Proofs.YtbpjnkeilhfajaaGreat.Ln
end

section
/- num's Floor and Ceil at rats; the closure of whole.Solve's IndexFunc. -/
namespace Go.Proofs
theorem Z4u0 {p : Prop} (h : p := by repeat (first | exact Below.refl _ _ | with_reducible assumption | refine Below.alloc ?_ (by first | exact Nat.le_refl _ | (simp; done) | (simp; omega) | omega) _ | refine Below.setCell ?_ (by first | exact Nat.le_refl _ | (simp; done) | (simp; omega) | omega) _ | refine Below.drew ?_ | refine bdrewN ?_ _)) : p := h
theorem Z4u1 {p : Prop} (h : p := by first | exact Nat.le_refl _ | (simp; done) | (simp; omega) | omega) : p := h
end Go.Proofs
namespace Go.Proofs.YtbpjnkeilhfajaaGreat.Ln
open Go.RowKit Go.Proofs.YtbpjnkeilhfajaaGreat.Num Go.Proofs.YtbpjnkeilhfajaaGreat.Given Go.Proofs.YtbpjnkeilhfajaaGreat.Lin Go.Proofs.YtbpjnkeilhfajaaGreatW.PrintWords
set_option linter.unusedVariables false
set_option linter.unusedSimpArgs false
theorem floor_parts (x : Rat) : x.floor = if x.num.tmod (x.den : Int) < 0 then x.num.tdiv (x.den : Int) - 1 else x.num.tdiv (x.den : Int) := by
 have hd : (0 : Int) < (x.den : Int) := by have := x.den_pos; omega
 rw [Rat.floor_def]
 have h1 := Int.mul_tdiv_add_tmod x.num x.den
 have h2 := Int.tmod_lt_of_pos x.num hd
 have h3 : -(x.den : Int) < x.num.tmod x.den := by
  have := Int.lt_tmod_of_pos x.num hd
  omega
 split
 ·rename_i hn
  have := (@Int.ediv_emod_unique x.num x.den (x.num.tmod x.den + x.den) (x.num.tdiv x.den - 1) hd).2 ⟨by rw [Int.mul_sub, Int.mul_one]; omega, by omega, by omega⟩
  exact this.1
 ·rename_i hn
  have := (@Int.ediv_emod_unique x.num x.den (x.num.tmod x.den) (x.num.tdiv x.den) hd).2 ⟨by omega, by omega, by omega⟩
  exact this.1
theorem tmod_ne {x : Rat} (h : x.den ≠ 1) : x.num.tmod (x.den : Int) ≠ 0 := by
 intro h0
 have hdv : (x.den : Int) ∣ x.num := Int.dvd_of_tmod_eq_zero h0
 have h1 : x.den ∣ x.num.natAbs := by
  have := Int.natAbs_dvd_natAbs.2 hdv
  rwa [Int.natAbs_natCast] at this
 have h2 := x.reduced
 exact h (Nat.Coprime.eq_one_of_dvd h2.symm h1)
theorem floor_in {x : Rat} (hx : Fit x) : In64 x.floor := by
 have hd : (0 : Int) < (x.den : Int) := by have := x.den_pos; omega
 obtain ⟨h1, h2⟩ := hx.1
 rw [Rat.floor_def]
 by_cases h0 : 0 ≤ x.num
 ·have h3 := Int.ediv_nonneg h0 (Int.le_of_lt hd)
  have h4 := Int.ediv_le_self (x.den : Int) h0
  exact ⟨by omega, by omega⟩
 ·have h3 := Int.ediv_neg_of_neg_of_pos (by omega : x.num < 0) hd
  have h4 : x.num ≤ x.num / (x.den : Int) := by
   refine (Int.le_ediv_iff_mul_le hd).2 ?_
   have : x.num * (x.den : Int) ≤ x.num * 1 := Int.mul_le_mul_of_nonpos_left (by omega) (by omega)
   omega
  exact ⟨by omega, by omega⟩
theorem floor_half {x : Rat} (hx : Fit x) (h : x.den ≠ 1) : In64 (-x.floor) ∧ In64 (x.floor + 1) := by
 have hd : (2 : Int) ≤ (x.den : Int) := by have := x.den_pos; omega
 obtain ⟨h1, h2⟩ := hx.1
 rw [Rat.floor_def]
 by_cases h0 : 0 ≤ x.num
 ·have h3 := Int.ediv_nonneg h0 (show 0 ≤ (x.den : Int) by omega)
  have h4 : x.num / (x.den : Int) * 2 ≤ x.num := by
   have h5 := Int.ediv_mul_le x.num (show (x.den : Int) ≠ 0 by omega)
   have : x.num / (x.den : Int) * 2 ≤ x.num / (x.den : Int) * (x.den : Int) := Int.mul_le_mul_of_nonneg_left hd h3
   omega
  exact ⟨⟨by omega, by omega⟩, ⟨by omega, by omega⟩⟩
 ·have h3 := Int.ediv_neg_of_neg_of_pos (by omega : x.num < 0) (show 0 < (x.den : Int) by omega)
  have h4 : -4611686018427387904 ≤ x.num / (x.den : Int) := by
   refine (Int.le_ediv_iff_mul_le (by omega)).2 ?_
   have : -4611686018427387904 * (x.den : Int) ≤ -4611686018427387904 * 2 := Int.mul_le_mul_of_nonpos_left (by omega) (by omega)
   omega
  exact ⟨⟨by omega, by omega⟩, ⟨by omega, by omega⟩⟩
set_option maxHeartbeats 4000000 in
set_option maxRecDepth 100000 in
theorem floor_q {x : Rat} (hx : Fit x) (w : World) : Calls Tryz.prog 80 #[rv x] w fun e w' => e = .returned (.int .i64 x.floor) ∧ Below w.heap.size w w' := by
 have hd : (0 : Int) < (x.den : Int) := by have := x.den_pos; omega
 have hfp := floor_parts x
 have hfi := floor_in hx
 obtain ⟨hp, hq⟩ := hx
 obtain ⟨q, hqe⟩ : ∃ q, x.num.tdiv (x.den : Int) = q := ⟨_, rfl⟩
 obtain ⟨m, hme⟩ : ∃ m, x.num.tmod (x.den : Int) = m := ⟨_, rfl⟩
 rw [hqe, hme] at hfp
 obtain ⟨f, hfe⟩ : ∃ f, x.floor = f := ⟨_, rfl⟩
 rw [hfe] at hfp hfi ⊢
 have e0 : ((0 : Int) < (x.den : Int)) = True := eq_true hd
 have e0n : (0 < x.den) = True := eq_true (by omega)
 have e1 : ((x.den : Int) = 0) = False := eq_false (by omega)
 have e2 : (x.den = 0) = False := eq_false (by have := x.den_pos; omega)
 have hqi : In64 q := by
  split at hfp
  ·rename_i hn
   have h1 := Int.mul_tdiv_add_tmod x.num x.den
   have h3 := Int.lt_tmod_of_pos x.num hd
   rw [hqe, hme] at h1
   rw [hme] at h3
   have h4 : x.num < 0 := by
    rcases Int.lt_or_le x.num 0 with h | h
    ·exact h
    ·have := Int.tmod_nonneg (x.den : Int) h
     omega
   have hq0 : q ≤ 0 := by
    rcases Int.lt_or_le 0 q with h | h
    ·have h5 : (x.den : Int) * 1 ≤ (x.den : Int) * q := Int.mul_le_mul_of_nonneg_left (by omega) (by omega)
     omega
    ·exact h
   exact ⟨by have := hfi.1; omega, by omega⟩
  ·rw [← hfp]; exact hfi
 have w1 : wrap64 q = q := wrap64_in hqi
 have w2 : IntKind.i64.wrap q = q := wrapi_in hqi
 have HFP := Lib.hid (And.intro hfp hfi)
 have HW := Lib.hid (And.intro w1 w2)
 clear hfp hfi hp hq hd hfe hqi w1 w2
 go_enter Tryz.func80, Tryz.ntmps80
 go_wp2_with fail
 refine (Num.right_any _ _ _).mono ?_
 rintro e w1 ⟨rfl, rfl⟩
 obtain ⟨w1, w2⟩ := HW.out
 by_cases hn : m < 0
 ·have e3 : (m < 0) = True := eq_true hn
  have hf := HFP.out
  rw [if_pos hn] at hf
  have w3 : wrap64 (q - 1) = q - 1 := wrap64_in (by rw [← hf.1]; exact hf.2)
  obtain ⟨hf1, hf2⟩ := hf
  subst hf1
  clear hn hf2 HFP HW
  go_wp2
  go_ret
  exact ⟨congrArg (fun z => Ending.returned (.int .i64 z)) w3, Z4u0⟩
 ·have e3 : (m < 0) = False := eq_false hn
  have hf := HFP.out
  rw [if_neg hn] at hf
  obtain ⟨hf1, hf2⟩ := hf
  subst hf1
  clear hn hf2 HFP HW
  go_wp2
  go_ret
  exact ⟨rfl, Z4u0⟩
set_option maxHeartbeats 4000000 in
set_option maxRecDepth 100000 in
theorem ceil_q {x : Rat} (hx : Fit x) (hd1 : x.den ≠ 1) (w : World) : Calls Tryz.prog 82 #[rv x] w fun e w' => e = .returned (.int .i64 x.ceil) ∧ Below w.heap.size w w' := by
 have hd : (0 : Int) < (x.den : Int) := by have := x.den_pos; omega
 have HF := Lib.hid (fun W => floor_q hx W)
 have hcf := ceil_floor hd1
 have hh := (floor_half hx hd1).2
 obtain ⟨m, hme⟩ : ∃ m, x.num.tmod (x.den : Int) = m := ⟨_, rfl⟩
 have hm0 : m ≠ 0 := by rw [← hme]; exact tmod_ne hd1
 obtain ⟨f, hfe⟩ : ∃ f, x.floor = f := ⟨_, rfl⟩
 rw [hfe] at hcf hh HF
 rw [hcf]
 have e0 : ((0 : Int) < (x.den : Int)) = True := eq_true hd
 have e0n : (0 < x.den) = True := eq_true (by omega)
 have e1 : ((x.den : Int) = 0) = False := eq_false (by omega)
 have e2 : (x.den = 0) = False := eq_false (by have := x.den_pos; omega)
 have e3 : (m = 0) = False := eq_false hm0
 have e3b : (m != 0) = true := bne_iff_ne.2 hm0
 have w3 : wrap64 (f + 1) = f + 1 := wrap64_in hh
 have HW := Lib.hid w3
 clear hx hd1 hd hcf hh hm0 hfe w3
 go_enter Tryz.func82, Tryz.ntmps82
 go_wp2_with fail
 refine (HF.out _).mono ?_
 rintro e w1 ⟨rfl, hb1⟩
 have q0 : w1.cell? ⟨w.heap.size, 0, none⟩ = some (.int .i64 x.num) := blk_cell (blk_below (blk_new w _) hb1) 0
 have q1 : w1.cell? ⟨w.heap.size, 1, none⟩ = some (.int .i64 (x.den : Int)) := blk_cell (blk_below (blk_new w _) hb1) 1
 have hz := hb1.size
 simp at hz
 have hzl : w.heap.size < w1.heap.size := by omega
 have HB := Lib.hid (show Below w.heap.size w w1 by refine Below.trans ?_ (hb1.mono Z4u1); exact Z4u0)
 clear hb1 hz
 go_wp2_with fail
 refine (Num.right_any _ _ _).mono ?_
 rintro e w2 ⟨rfl, rfl⟩
 go_wp2
 go_ret
 exact ⟨congrArg (fun z => Ending.returned (.int .i64 z)) HW.out, HB.out.alloc HB.out.size _⟩
end Go.Proofs.YtbpjnkeilhfajaaGreat.Ln
end
