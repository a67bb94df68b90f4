/- LinearChecks, walked. -/
import Derived.Test.YtbpjnkeilhfajaaGreatRxX
import Derived.Test.YtbpjnkeilhfajaaGreatTl
import Derived.Test.YtbpjnkeilhfajaaGreatRxO
import Derived.Test.YtbpjnkeilhfajaaGreatRxB
import Derived.Test.YtbpjnkeilhfajaaGreatRxF
import Derived.Test.YtbpjnkeilhfajaaGreatLnShown
namespace Go.Proofs.YtbpjnkeilhfajaaGreat.Rw
open Go.RowKit Go.Proofs.YtbpjnkeilhfajaaGreat.Given Go.Proofs.YtbpjnkeilhfajaaGreatW.PrintWords Go.Proofs.YtbpjnkeilhfajaaGreatW.PrintLast Go.Proofs.YtbpjnkeilhfajaaGreat.Num Go.Proofs.YtbpjnkeilhfajaaGreat.Ln Go.Proofs.YtbpjnkeilhfajaaGreat.Lin
set_option linter.unusedVariables false
set_option linter.unusedSimpArgs false

def ptL (p q : List Int) (k : Nat) : List S28 := (List.range k).map fun i => ⟨p.getD i 0, q.getD i 0⟩
theorem ptL_succ (p q : List Int) (k : Nat) : ptL p q (k + 1) = ptL p q k ++ [⟨p.getD k 0, q.getD k 0⟩] := by unfold ptL; rw [List.range_succ, List.map_append]; rfl
theorem ptL_len (p q : List Int) (k : Nat) : (ptL p q k).length = k := by unfold ptL; simp
theorem getD_in {l : List Int} (h : ∀ x, x ∈ l → In64 x) (i : Nat) : In64 (l.getD i 0) := by
  rw [List.getD_eq_getElem?_getD]
  rcases Nat.lt_or_ge i l.length with h1 | h1
  · rw [List.getElem?_eq_getElem h1]; exact h _ (List.getElem_mem h1)
  · rw [List.getElem?_eq_none h1]; decide
theorem getD_is {l : List Int} {i : Nat} (h : i < l.length) : l[i] = l.getD i 0 := by rw [List.getD_eq_getElem?_getD, List.getElem?_eq_getElem h]; rfl
theorem ptL_in {p q : List Int} (h : (∀ x, x ∈ p → In64 x) ∧ ∀ x, x ∈ q → In64 x) {k : Nat} : ∀ x, x ∈ ptL p q k → In64 x.f0 ∧ In64 x.f1 := by
  intro x hx
  obtain ⟨i, _, rfl⟩ := List.mem_map.1 hx
  exact ⟨getD_in h.1 i, getD_in h.2 i⟩

set_option maxHeartbeats 16000000 in
set_option maxRecDepth 100000 in
theorem linchecks_any (l : List S40) (A : Option Addr) (c : Nat) (p : List Int) (A1 : Option Addr) (c1 : Nat) (q : List Int) (A2 : Option Addr) (c2 : Nat) (u : List Int) (A3 : Option Addr) (c3 : Nat) (w : World) (hC : Kd.C k40 w A l.length l) (hP : (Kd.int .i64).C w A1 p.length p) (hQ : (Kd.int .i64).C w A2 q.length q) (hU : (Kd.int .i64).C w A3 u.length u) (hc3 : u.length ≤ c3) (hin : ∀ r, r ∈ l → RowIn r) (hpi : ∀ x, x ∈ p → In64 x) (hqi : ∀ x, x ∈ q → In64 x) (hui : ∀ x, x ∈ u → In64 x) :
    Calls Tryz.prog 3 #[.slice A l.length c, .slice A1 p.length c1, .slice A2 q.length c2, .slice A3 u.length c3] w fun e w' => e = .returned (.bool true) ∧ Below w.heap.size w w' := by
  have HC := Lib.hid hC
  have HP := Lib.hid hP
  have HQ := Lib.hid hQ
  have HPI := Lib.hid (And.intro hpi hqi)
  have HMP := Lib.hid (show p.length ≤ 9223372036854775807 from Kd.C_max hP)
  have HMQ := Lib.hid (show q.length ≤ 9223372036854775807 from Kd.C_max hQ)
  have HF := Lib.hid (few_in hin)
  obtain ⟨L, hL⟩ : ∃ L, fewL l = L := ⟨_, rfl⟩
  rw [hL] at HF
  have HL := Lib.hid hL
  obtain ⟨t, ht⟩ : ∃ t, u.take 30 = t := ⟨_, rfl⟩
  have htl : t.length = min u.length 30 := by rw [← ht, List.length_take, Nat.min_comm]
  have HT := Lib.hid (show t.length ≤ 30 ∧ ∀ x, x ∈ t → In64 x from ⟨by omega, fun x hx => hui x (by rw [← ht] at hx; exact List.mem_of_mem_take hx)⟩)
  have hCt : (Kd.int .i64).C w A3 t.length t := by
    have h := Kd.C_take hU (show min u.length 30 ≤ u.length by omega)
    rw [take_min, ht] at h
    exact h
  have HCt := Lib.hid hCt
  have em : min (u.length : Int) 30 = ((t.length : Nat) : Int) := by rw [htl]; omega
  have b1 : (t.length ≤ c3) = True := eq_true (by omega)
  have b2 : ((t.length : Int) ≤ (c3 : Int)) = True := eq_true (by omega)
  have b3 : (t.length ≤ u.length) = True := eq_true (by omega)
  clear hC hP hQ hU hin hpi hqi hui hL ht htl hCt
  go_enter Tryz.func3, Tryz.ntmps3
  go_wp2_with fail
  refine (shown_any _).mono ?_
  rintro e w1 ⟨rfl, hb1⟩
  go_wp2_with fail
  refine (few11_any l A c w1 (Kd.C_below HC.out hb1)).mono ?_
  rintro e w2 ⟨vL, raws, rfl, hO, hb2⟩
  rw [HL.out] at hO
  obtain ⟨A4, c4, rfl, hc4, hC4⟩ := hO.read (by have := HF.out.1; omega)
  have HB2 := Lib.hid (hb1.trans (hb2.mono hb1.size))
  have HC4 := Lib.hid hC4
  have HC4c := Lib.hid hc4
  clear hO hb1 hb2 hC4 hc4
  go_wp2
  go_loopw [10, 11] (fun v6 v7 wr => ∃ i : Nat, i ≤ 70 ∧ i ≤ p.length ∧ i ≤ q.length ∧ v7 = .int .i64 i ∧ Hid (RowT 28 wr w2.heap.size v6 (ptL p q i)) ∧ Hid (Below w2.heap.size w2 wr)) (fun _ v7 _ => 70 - (intOf v7).toNat)
  case atStart => exact ⟨0, by omega, Nat.zero_le _, Nat.zero_le _, rfl, Lib.hid RowT.nil, Lib.hid (Below.refl _ _)⟩
  case round =>
    obtain ⟨i, hi, hip, hiq, rfl, HO, HB⟩ := hrel
    have HBW := Lib.hid (HB2.out.trans (HB.out.mono HB2.out.size))
    by_cases hil : i < p.length ∧ i < q.length ∧ i < 70
    · have e1 : (i < p.length) = True := eq_true hil.1
      have e2 : (i < q.length) = True := eq_true hil.2.1
      have e3 : ((i : Int) < 70) = True := eq_true (by omega)
      have e3' : (i < 70) = True := eq_true hil.2.2
      obtain ⟨ap, rfl, z0⟩ := i64_at HP.out hil.1
      obtain ⟨aq, rfl, z1⟩ := i64_at HQ.out hil.2.1
      rw [getD_is hil.1] at z0
      rw [getD_is hil.2.1] at z1
      obtain ⟨x, hx⟩ : ∃ x, p.getD i 0 = x := ⟨_, rfl⟩
      obtain ⟨y, hy⟩ : ∃ y, q.getD i 0 = y := ⟨_, rfl⟩
      have HT2 := Lib.hid (show ptL p q (i + 1) = ptL p q i ++ [⟨x, y⟩] by rw [ptL_succ, hx, hy])
      rw [hx] at z0
      rw [hy] at z1
      have HCe := Lib.hid (show Cells [(ap.add i, .int .i64 x), (aq.add i, .int .i64 y)] w from ⟨z0, z1, trivial⟩)
      have hlen : (ptL p q i).length < 1000000 := by rw [ptL_len]; omega
      have HLn := Lib.hid hlen
      have HI := Lib.hid (And.intro hi hil)
      have EW := Lib.hid (wrapj (show i + 1 < 9223372036854775808 by omega))
      have hwb : w2.heap.size ≤ wr.heap.size := HB.out.size
      have HD0 := Lib.hid (show Below wr.heap.size wr wr.drew from (Below.refl _ _).drew)
      have hww : w.heap.size ≤ wr.heap.size := HBW.out.size
      clear hi hip hiq hil hx hy hlen z0 z1
      go_wp2_with fail
      refine wp_region_L 12 (Hd _ wr w2.heap.size) (by kernel_rfl) (⟨hwb, HCe.out.keep HBW.out.drew, HD0.out.mono hwb⟩) (fun hHeld => ?_)
      refine tl0 ?_ (by decide +kernel) (by rfl) (fun _ _ _ => id) ?_ (by assumption) ?_; rotate_left 1; (focus (intro w_ hSw; have hSw := hSw.cells; simp only [Cells] at hSw; go_simp; all_goals (with_reducible rfl); done)); focus try simp only [Act.put, List.setIfInBounds_toArray, List.set_cons_zero, List.set_cons_succ]
      refine tl1 ?_ (by decide +kernel) (by rfl) (fun _ _ _ => id) ?_ (by assumption) ?_; rotate_left 1; (focus (intro w_ hSw; have hSw := hSw.cells; simp only [Cells] at hSw; go_simp; all_goals (with_reducible rfl); done)); focus try simp only [Act.put, List.setIfInBounds_toArray, List.set_cons_zero, List.set_cons_succ]
      refine tl2 ?_ (by decide +kernel) (by rfl) (fun _ _ _ => id) ?_ (by assumption) ?_; rotate_left 1; (focus (intro w_ hSw; have hSw := hSw.cells; simp only [Cells] at hSw; go_simp; all_goals (with_reducible rfl); done)); focus try simp only [Act.put, List.setIfInBounds_toArray, List.set_cons_zero, List.set_cons_succ]
      refine tl3 ?_ (by decide +kernel) (by rfl) (fun _ _ _ => id) ?_ (by assumption) ?_; rotate_left 1; (focus (intro w_ hSw; have hSw := hSw.cells; simp only [Cells] at hSw; go_simp; all_goals (with_reducible rfl); done)); focus try simp only [Act.put, List.setIfInBounds_toArray, List.set_cons_zero, List.set_cons_succ]
      refine tl4 ?_ (by decide +kernel) (by rfl) (fun _ _ _ => id) ?_ (by assumption) ?_; rotate_left 1; (focus (intro w_ hSw; have hSw := hSw.cells; simp only [Cells] at hSw; go_simp; all_goals (with_reducible rfl); done)); focus try simp only [Act.put, List.setIfInBounds_toArray, List.set_cons_zero, List.set_cons_succ]
      refine tl5 ?_ (by decide +kernel) (by rfl) (fun _ _ _ => id) ?_ (by assumption) ?_; rotate_left 1; (focus (intro w_ hSw; have hSw := hSw.cells; simp only [Cells] at hSw; go_simp; all_goals (with_reducible rfl); done)); focus try simp only [Act.put, List.setIfInBounds_toArray, List.set_cons_zero, List.set_cons_succ]
      refine tl6 ?_ (by decide +kernel) (by rfl) (fun _ _ _ => id) ?_ (by assumption) ?_; rotate_left 1; (focus (intro w_ hSw; have hSw := hSw.cells; simp only [Cells] at hSw; go_simp; all_goals (with_reducible rfl); done)); focus try simp only [Act.put, List.setIfInBounds_toArray, List.set_cons_zero, List.set_cons_succ]
      refine tl7 ?_ (by decide +kernel) (by rfl) (fun _ _ _ => id) ?_ (by assumption) ?_; rotate_left 1; (focus (intro w_ hSw; have hSw := hSw.cells; simp only [Cells] at hSw; go_simp; all_goals (with_reducible rfl); done)); focus try simp only [Act.put, List.setIfInBounds_toArray, List.set_cons_zero, List.set_cons_succ]
      refine tl8 ?_ (by decide +kernel) (by rfl) (fun _ _ _ => id) ?_ (by assumption) ?_; rotate_left 1; (focus (intro w_ hSw; have hSw := hSw.cells; simp only [Cells] at hSw; go_simp; all_goals (with_reducible rfl); done)); focus try simp only [Act.put, List.setIfInBounds_toArray, List.set_cons_zero, List.set_cons_succ]
      refine tl9 ?_ (by decide +kernel) (by rfl) (fun _ _ _ => id) ?_ (by assumption) ?_; rotate_left 1; (focus (intro w_ hSw; have hSw := hSw.cells; simp only [Cells] at hSw; go_simp; all_goals (with_reducible rfl); done)); focus try simp only [Act.put, List.setIfInBounds_toArray, List.set_cons_zero, List.set_cons_succ]
      refine wpAnyL_ready (rs := [10]) (by kernel_rfl) (by simp) (al10 (fun K hK => ?_) (AllReadyL.nil))
      focus (refine sl_newh (.cells #[.int .i64 x, .int .i64 y] 28) 1 (by kernel_rfl) (by intro w_; go_simp; done) (fun g2_ w3 hg2_ hb2 HP2 => ?_); have HD1 := Lib.hid (HD0.out.trans hb2))
      refine hK.out _ _ (fun _ => ?_) (fun hHeld => ?_)
      · exact hHeld.keep hb2
      focus (have hHeld := hHeld (by decide); clear hK K; try simp only [Act.put, List.setIfInBounds_toArray, List.set_cons_zero, List.set_cons_succ])
      refine wpAnyL_ready (rs := [11]) (by kernel_rfl) (by simp) (al11 (fun K hK => ?_) (AllReadyL.nil))
      focus (refine stepT 28 26 Tryz.underlying26 infoN rfl (.tmp 31) (.tmp 41) rfl w2.heap.size _ _ rfl (HO.out.below HD1.out) (some ⟨g2_, 0, none⟩) 1 ⟨x, y⟩ rfl (raw_lit HP2 rfl rfl) HLn.out (Nat.le_trans hwb HD1.out.size) ?_; intro v5 w5 HO5 HB5; have HB9 := Lib.hid (HB.out.trans ((HD1.out.mono hwb).trans HB5.out)))
      refine hK.out _ _ (fun _ => ?_) (fun hHeld => ?_)
      · exact ⟨hwb, HCe.out.keep (HB2.out.trans (HB9.out.mono HB2.out.size)), (HD1.out.mono hwb).trans HB5.out⟩
      focus (have hHeld := hHeld (by decide); clear hK K; try simp only [Act.put, List.setIfInBounds_toArray, List.set_cons_zero, List.set_cons_succ])
      refine wpAnyL_ready (rs := [12]) (by kernel_rfl) (by simp) (al12 (fun K hK => ?_) (AllReadyL.nil))
      focus go_simp
      refine hK.out _ _ (fun h => absurd rfl h) (fun _ => ?_)
      focus (clear hK K; try simp only [Act.put, List.setIfInBounds_toArray, List.set_cons_zero, List.set_cons_succ])
      refine wpAnyL_done (by kernel_rfl) ?_ _; rotate_left 1
      go_wp2
      refine ⟨⟨i + 1, HI.out.2.2.2, HI.out.2.1, HI.out.2.2.1, congrArg (Value.int .i64) EW.out, Lib.hid (by rw [HT2.out]; exact HO5.out), HB9⟩, ?_⟩
      rw [EW.out]
      simp only [intOf, Int.toNat_natCast]
      exact meas_lt HI.out.2.2.2
    · have HM : Hid (∃ k, k = i ∧ k ≤ 70) := Lib.hid ⟨i, rfl, hi⟩
      obtain ⟨pts, hpts⟩ : ∃ pts, ptL p q i = pts := ⟨_, rfl⟩
      rw [hpts] at HO
      have HPT := Lib.hid (show pts.length ≤ 70 ∧ ∀ x, x ∈ pts → In64 x.f0 ∧ In64 x.f1 by subst hpts; exact ⟨by rw [ptL_len]; exact hi, ptL_in HPI.out⟩)
      obtain ⟨A5, c5, rfl, hc5, hC5⟩ := HO.out.read
      have HC5 := Lib.hid hC5
      have HC5c := Lib.hid hc5
      have hcase : ((i < p.length) = True ∧ (i < q.length) = True ∧ ((i : Int) < 70) = False ∧ (i < 70) = False) ∨ ((i < p.length) = True ∧ (i < q.length) = False) ∨ (i < p.length) = False := by
        rcases Nat.lt_or_ge i p.length with h1 | h1
        · rcases Nat.lt_or_ge i q.length with h2 | h2
          · exact .inl ⟨eq_true h1, eq_true h2, eq_false (by omega), eq_false (by omega)⟩
          · exact .inr (.inl ⟨eq_true h1, eq_false (by omega)⟩)
        · exact .inr (.inr (eq_false (by omega)))
      have HI0 := Lib.hid (show RowI (wr.alloc (.cells #[] 2)) wr.heap.size (.slice (some ⟨wr.heap.size, 0, none⟩) 0 0) [] from rowI_empty (Lib.hid ⟨blk_new _ _, by simp⟩) (Nat.le_refl _))
      have HB3 := Lib.hid (show Below wr.heap.size wr (wr.alloc (.cells #[] 2)) from (Below.refl _ _).alloc (Nat.le_refl _) _)
      clear hi hip hiq hil hpts hC5 hc5 HM HO
      rcases hcase with ⟨e1, e2, e3, e3'⟩ | ⟨e1, e2⟩ | e1
      all_goals
        go_wp2_with (at_builtin; refine wpList_appIR rfl (.tmp 43) (.tmp 48) rfl wr.heap.size _ [] rfl HI0.out A3 t.length _ t rfl rfl (Kd.C_below HCt.out (HBW.out.trans (HB3.out.mono HBW.out.size))) (by have := HT.out.1; simp; omega) HB3.out.size ?_; intro v3 w3 HI3 HB4; have HI4 := Lib.hid (show RowI w3 wr.heap.size v3 t from HI3.out); obtain ⟨A6, c6, rfl, hc6, hC6⟩ := Kd.R_reads (RowI.toR HI4.out); have HC6 := Lib.hid hC6; have HC6c := Lib.hid hc6; clear hC6 hc6 HI3)
        have HB5 := Lib.hid (HB3.out.trans HB4.out)
        have HB6 := Lib.hid (HBW.out.trans (HB5.out.mono HBW.out.size))
        have HB7 := Lib.hid (HB.out.trans (HB5.out.mono HB.out.size))
        have HC4' := Lib.hid (Kd.C_below HC4.out HB7.out)
        have HC5' := Lib.hid (Kd.C_below HC5.out HB5.out)
        have hin : ∀ r, r ∈ L → RowIn r := fun r hr => (HF.out.2 r hr).1
        refine (CheckPoint_any L pts A4 A5 c4 c5 w3 HC4'.out HC4c.out HC5'.out HC5c.out hin HPT.out.2).mono ?_
        rintro e w4 ⟨rfl, hb7⟩
        obtain ⟨b, hb⟩ : ∃ b, chkP L pts = b := ⟨_, rfl⟩
        rw [hb]
        have HBb := Lib.hid hb
        have eb : (b == b) = true := by simp
        have HB8 := Lib.hid (HB6.out.trans (hb7.mono HB6.out.size))
        have HC4 := Lib.hid (Kd.C_below HC4'.out hb7)
        have HC5 := Lib.hid (Kd.C_below HC5'.out hb7)
        have HC6 := Lib.hid (Kd.C_below HC6.out hb7)
        clear hb hb7 hin HC4' HC5'
        go_wp2_with fail
        refine (checks11_any L pts A4 A5 c4 c5 w4 HC4.out HC5.out (fun r hr => (HF.out.2 r hr).1) HPT.out.2 (by have := HPT.out.1; omega)).mono ?_
        rintro e w5 ⟨rfl, hb8⟩
        rw [HBb.out]
        have HB9 := Lib.hid (HB8.out.trans (hb8.mono HB8.out.size))
        have HC4 := Lib.hid (Kd.C_below HC4.out hb8)
        have HC6 := Lib.hid (Kd.C_below HC6.out hb8)
        clear hb8
        go_wp2_with fail
        refine (CheckFarkas_any L t A4 A6 c4 c6 w5 HC4.out HC4c.out HC6.out HC6c.out (fun r hr => (HF.out.2 r hr).1) HT.out.2).mono ?_
        rintro e w6 ⟨rfl, hb9⟩
        obtain ⟨d, hd⟩ : ∃ d, chkF L t = d := ⟨_, rfl⟩
        rw [hd]
        rw [chkF_is] at hd
        have HD := Lib.hid hd
        have ed : (d == d) = true := by simp
        have HB10 := Lib.hid (HB9.out.trans (hb9.mono HB9.out.size))
        have HC4 := Lib.hid (Kd.C_below HC4.out hb9)
        have HC6 := Lib.hid (Kd.C_below HC6.out hb9)
        clear hb9 hd
        go_wp2_with fail
        refine (farkas11_any L t A4 A6 c4 c6 w6 HC4.out HC6.out (fun r hr => (HF.out.2 r hr).1) HT.out.2).mono ?_
        rintro e w7 ⟨rfl, hb10⟩
        rw [HD.out]
        have HB11 := Lib.hid (HB10.out.trans (hb10.mono HB10.out.size))
        clear hb10
        go_wp2
        go_ret
        exact ⟨rfl, HB11.out⟩
end Go.Proofs.YtbpjnkeilhfajaaGreat.Rw
