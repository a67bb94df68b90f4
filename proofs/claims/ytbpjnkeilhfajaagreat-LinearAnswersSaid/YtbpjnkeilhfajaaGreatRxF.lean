/- ashlarlaw11.few, walked. -/
import Derived.Test.YtbpjnkeilhfajaaGreatRxX
import Derived.Test.YtbpjnkeilhfajaaGreatTl
import Derived.Test.YtbpjnkeilhfajaaGreatRwF12
namespace Go.Proofs.YtbpjnkeilhfajaaGreat.Rw
open Go.RowKit Go.Proofs.YtbpjnkeilhfajaaGreat.Given Go.Proofs.YtbpjnkeilhfajaaGreatW.PrintWords Go.Proofs.YtbpjnkeilhfajaaGreatW.PrintLast Go.Proofs.YtbpjnkeilhfajaaGreat.Num Go.Proofs.YtbpjnkeilhfajaaGreat.Ln Go.Proofs.YtbpjnkeilhfajaaGreat.Lin
set_option linter.unusedVariables false
set_option linter.unusedSimpArgs false

set_option maxHeartbeats 8000000 in
set_option maxRecDepth 100000 in
theorem few11_any (l : List S40) (A : Option Addr) (c : Nat) (w : World) (hC : Kd.C k40 w A l.length l) :
    Calls Tryz.prog 14 #[.slice A l.length c] w fun e w' => ∃ v raws, e = .returned v ∧ RowsO w' w.heap.size v (fewL l) raws ∧ Below w.heap.size w w' := by
  have HC := Lib.hid hC
  clear hC
  go_enter Tryz.func14, Tryz.ntmps14
  go_wp2
  go_loopw [3, 4] (fun v5 v6 wr => ∃ (i : Nat) (raws : List Value), i ≤ l.length ∧ i ≤ 20 ∧ v6 = .int .i64 i ∧ Hid (RowsO wr w.heap.size v5 ((l.take i).map cutR) raws) ∧ Hid (Below w.heap.size w wr)) (fun _ v6 _ => l.length - (intOf v6).toNat)
  case atStart => exact ⟨0, [], Nat.zero_le _, by omega, rfl, Lib.hid (by rw [List.take_zero]; exact RowsO.nil), Lib.hid (Below.refl _ _)⟩
  case round =>
    obtain ⟨i, raws, hi, hi3, rfl, HO, HB⟩ := hrel
    by_cases hb : i < l.length ∧ i < 20
    · have e1 : (i < l.length) = True := eq_true hb.1
      have e2 : (i < 20) = True := eq_true hb.2
      have e2' : ((i : Int) < 20) = True := eq_true (by omega)
      obtain ⟨ad, A0, c0, rfl, z0, z1, hc0, hrow⟩ := row_at HC.out hb.1
      have HT := Lib.hid (show (l.take (i + 1)).map cutR = (l.take i).map cutR ++ [cutR l[i]] by rw [List.take_add_one, List.getElem?_eq_getElem hb.1, List.map_append]; rfl)
      obtain ⟨r, hr⟩ : ∃ r, l[i] = r := ⟨_, rfl⟩
      rw [hr] at z0 z1 hrow HT hc0
      have q0 := kcell HB.out z0
      have q1 := kcell HB.out z1
      obtain ⟨n, hn⟩ : ∃ n, r.f0.length = n := ⟨_, rfl⟩
      obtain ⟨t, ht⟩ : ∃ t, r.f0.take 70 = t := ⟨_, rfl⟩
      have htl : t.length = min n 70 := by rw [← ht, List.length_take, hn]; omega
      have hCt : (Kd.int .i64).C w A0 t.length t := by
        have h := Kd.C_take hrow (show min n 70 ≤ r.f0.length by omega)
        have e : r.f0.take (min n 70) = t := by
          rw [← ht]
          rcases Nat.le_total n 70 with h3 | h3
          · rw [Nat.min_eq_left h3, List.take_of_length_le (by omega), List.take_of_length_le (by omega)]
          · rw [Nat.min_eq_right h3]
        rwa [e] at h
      have HCT := Lib.hid (Kd.C_below hCt HB.out)
      have HTL := Lib.hid (show t.length ≤ 70 by omega)
      rw [hn] at q0 hc0
      have em : min (n : Int) 70 = ((t.length : Nat) : Int) := by rw [htl]; omega
      have b1 : (t.length ≤ c0) = True := eq_true (by omega)
      have b2 : ((t.length : Int) ≤ (c0 : Int)) = True := eq_true (by omega)
      have b3 : (t.length ≤ n) = True := eq_true (by omega)
      have HRR := Lib.hid (show cutR r = ⟨t, r.f1⟩ by rw [← ht]; rfl)
      have HII := Lib.hid (And.intro hi hb)
      have EWi := Lib.hid (wrapj (show i + 1 < 9223372036854775808 by omega))
      have hL : ((l.take i).map cutR).length + 1 < 1000000 := by rw [List.length_map, List.length_take]; omega
      have HL := Lib.hid hL
      have HCe := Lib.hid (show Cells [(ad.add (i * 2), .slice A0 n c0), (⟨(ad.add (i * 2)).block, (ad.add (i * 2)).off + 1, none⟩, .int .i64 r.f1)] w from ⟨by rw [← hn]; exact z0, z1, trivial⟩)
      have hwb : w.heap.size ≤ wr.heap.size := HB.out.size
      have HD0 := Lib.hid (show Below wr.heap.size wr wr.drew from (Below.refl _ _).drew)
      clear hi hi3 hb hr hc0 hrow hn ht htl hCt hL q0 q1 z0 z1
      go_wp2_with fail
      refine wp_region_L 24 (Hd _ wr w.heap.size) (by kernel_rfl) (⟨hwb, HCe.out.keep HB.out.drew, HD0.out.mono hwb⟩) (fun hHeld => ?_)
      refine tl0 ?_ (by decide +kernel) (by rfl) (fun _ _ _ => id) ?_ (by assumption) ?_; rotate_left 1; (focus (intro w_ hSw; have hSw := hSw.cells; simp only [Cells] at hSw; go_simp; all_goals (with_reducible rfl); done)); focus try simp only [Act.put, List.setIfInBounds_toArray, List.set_cons_zero, List.set_cons_succ]
      refine tl2 ?_ (by decide +kernel) (by rfl) (fun _ _ _ => id) ?_ (by assumption) ?_; rotate_left 1; (focus (intro w_ hSw; have hSw := hSw.cells; simp only [Cells] at hSw; go_simp; all_goals (with_reducible rfl); done)); focus try simp only [Act.put, List.setIfInBounds_toArray, List.set_cons_zero, List.set_cons_succ]
      refine tl3 ?_ (by decide +kernel) (by rfl) (fun _ _ _ => id) ?_ (by assumption) ?_; rotate_left 1; (focus (intro w_ hSw; have hSw := hSw.cells; simp only [Cells] at hSw; go_simp; all_goals (with_reducible rfl); done)); focus try simp only [Act.put, List.setIfInBounds_toArray, List.set_cons_zero, List.set_cons_succ]
      refine tl4 ?_ (by decide +kernel) (by rfl) (fun _ _ _ => id) ?_ (by assumption) ?_; rotate_left 1; (focus (intro w_ hSw; have hSw := hSw.cells; simp only [Cells] at hSw; go_simp; all_goals (with_reducible rfl); done)); focus try simp only [Act.put, List.setIfInBounds_toArray, List.set_cons_zero, List.set_cons_succ]
      refine tl5 ?_ (by decide +kernel) (by rfl) (fun _ _ _ => id) ?_ (by assumption) ?_; rotate_left 1; (focus (intro w_ hSw; have hSw := hSw.cells; simp only [Cells] at hSw; go_simp; all_goals (with_reducible rfl); done)); focus try simp only [Act.put, List.setIfInBounds_toArray, List.set_cons_zero, List.set_cons_succ]
      refine tl6 ?_ (by decide +kernel) (by rfl) (fun _ _ _ => id) ?_ (by assumption) ?_; rotate_left 1; (focus (intro w_ hSw; have hSw := hSw.cells; simp only [Cells] at hSw; go_simp; all_goals (with_reducible rfl); done)); focus try simp only [Act.put, List.setIfInBounds_toArray, List.set_cons_zero, List.set_cons_succ]
      refine tl7 ?_ (by decide +kernel) (by rfl) (fun _ _ _ => id) ?_ (by assumption) ?_; rotate_left 1; (focus (intro w_ hSw; have hSw := hSw.cells; simp only [Cells] at hSw; go_simp; all_goals (with_reducible rfl); done)); focus try simp only [Act.put, List.setIfInBounds_toArray, List.set_cons_zero, List.set_cons_succ]
      refine tl8 ?_ (by decide +kernel) (by rfl) (fun _ _ _ => id) ?_ (by assumption) ?_; rotate_left 1; (focus (intro w_ hSw; have hSw := hSw.cells; simp only [Cells] at hSw; go_simp; all_goals (with_reducible rfl); done)); focus try simp only [Act.put, List.setIfInBounds_toArray, List.set_cons_zero, List.set_cons_succ]
      refine tl9 ?_ (by decide +kernel) (by rfl) (fun _ _ _ => id) ?_ (by assumption) ?_; rotate_left 1; (focus (intro w_ hSw; have hSw := hSw.cells; simp only [Cells] at hSw; go_simp; all_goals (with_reducible rfl); done)); focus try simp only [Act.put, List.setIfInBounds_toArray, List.set_cons_zero, List.set_cons_succ]
      refine tl10 ?_ (by decide +kernel) (by rfl) (fun _ _ _ => id) ?_ (by assumption) ?_; rotate_left 1; (focus (intro w_ hSw; have hSw := hSw.cells; simp only [Cells] at hSw; go_simp; all_goals (with_reducible rfl); done)); focus try simp only [Act.put, List.setIfInBounds_toArray, List.set_cons_zero, List.set_cons_succ]
      refine tl11 ?_ (by decide +kernel) (by rfl) (fun _ _ _ => id) ?_ (by assumption) ?_; rotate_left 1; (focus (intro w_ hSw; have hSw := hSw.cells; simp only [Cells] at hSw; go_simp; all_goals (with_reducible rfl); done)); focus try simp only [Act.put, List.setIfInBounds_toArray, List.set_cons_zero, List.set_cons_succ]
      refine tl12 ?_ (by decide +kernel) (by rfl) (fun _ _ _ => id) ?_ (by assumption) ?_; rotate_left 1; (focus (intro w_ hSw; have hSw := hSw.cells; simp only [Cells] at hSw; go_simp; all_goals (with_reducible rfl); done)); focus try simp only [Act.put, List.setIfInBounds_toArray, List.set_cons_zero, List.set_cons_succ]
      refine tl13 ?_ (by decide +kernel) (by rfl) (fun _ _ _ => id) ?_ (by assumption) ?_; rotate_left 1; (focus (intro w_ hSw; have hSw := hSw.cells; simp only [Cells] at hSw; go_simp; all_goals (with_reducible rfl); done)); focus try simp only [Act.put, List.setIfInBounds_toArray, List.set_cons_zero, List.set_cons_succ]
      refine tl14 ?_ (by decide +kernel) (by rfl) (fun _ _ _ => id) ?_ (by assumption) ?_; rotate_left 1; (focus (intro w_ hSw; have hSw := hSw.cells; simp only [Cells] at hSw; go_simp; all_goals (with_reducible rfl); done)); focus try simp only [Act.put, List.setIfInBounds_toArray, List.set_cons_zero, List.set_cons_succ]
      refine tl16 ?_ (by decide +kernel) (by rfl) (fun _ _ _ => id) ?_ (by assumption) ?_; rotate_left 1; (focus (intro w_ hSw; have hSw := hSw.cells; simp only [Cells] at hSw; go_simp; all_goals (with_reducible rfl); done)); focus try simp only [Act.put, List.setIfInBounds_toArray, List.set_cons_zero, List.set_cons_succ]
      refine tl17 ?_ (by decide +kernel) (by rfl) (fun _ _ _ => id) ?_ (by assumption) ?_; rotate_left 1; (focus (intro w_ hSw; have hSw := hSw.cells; simp only [Cells] at hSw; go_simp; all_goals (with_reducible rfl); done)); focus try simp only [Act.put, List.setIfInBounds_toArray, List.set_cons_zero, List.set_cons_succ]
      refine tl18 ?_ (by decide +kernel) (by rfl) (fun _ _ _ => id) ?_ (by assumption) ?_; rotate_left 1; (focus (intro w_ hSw; have hSw := hSw.cells; simp only [Cells] at hSw; go_simp; all_goals (with_reducible rfl); done)); focus try simp only [Act.put, List.setIfInBounds_toArray, List.set_cons_zero, List.set_cons_succ]
      refine tl19 ?_ (by decide +kernel) (by rfl) (fun _ _ _ => id) ?_ (by assumption) ?_; rotate_left 1; (focus (intro w_ hSw; have hSw := hSw.cells; simp only [Cells] at hSw; go_simp; all_goals (with_reducible rfl); done)); focus try simp only [Act.put, List.setIfInBounds_toArray, List.set_cons_zero, List.set_cons_succ]
      refine tl20 ?_ (by decide +kernel) (by rfl) (fun _ _ _ => id) ?_ (by assumption) ?_; rotate_left 1; (focus (intro w_ hSw; have hSw := hSw.cells; simp only [Cells] at hSw; go_simp; all_goals (with_reducible rfl); done)); focus try simp only [Act.put, List.setIfInBounds_toArray, List.set_cons_zero, List.set_cons_succ]
      refine wpAnyL_ready (rs := [1]) (by kernel_rfl) (by simp) (al1 (fun K hK => ?_) (AllReadyL.nil))
      focus (refine sl_newh (.cells #[] 2) 0 (by kernel_rfl) (by intro w_; go_simp; done) (fun g_ w2 hg_ hb2 HP => ?_); have HG := Lib.hid (Nat.le_trans HD0.out.size (Nat.le_of_eq hg_.out.symm)); have HD1 := Lib.hid (HD0.out.trans hb2); have HI0 := Lib.hid (rowI_empty HP HG.out))
      refine hK.out _ _ (fun _ => ?_) (fun hHeld => ?_)
      · exact hHeld.keep hb2
      focus (have hHeld := hHeld (by decide); clear hK K; try simp only [Act.put, List.setIfInBounds_toArray, List.set_cons_zero, List.set_cons_succ])
      refine wpAnyL_ready (rs := [15]) (by kernel_rfl) (by simp) (al15 (fun K hK => ?_) (AllReadyL.nil))
      focus (refine stepI rfl (.tmp 16) (.tmp 29) rfl wr.heap.size _ [] rfl HI0.out A0 t.length c0 t rfl rfl (Kd.C_below HCT.out HD1.out) (by have := HTL.out; simp; omega) HD1.out.size ?_; intro v3 w3 HI3 HB3 hg3; have HD2 := Lib.hid (HD1.out.trans HB3.out); obtain ⟨A3, n3, c3, rfl⟩ : ∃ A n c, v3 = .slice A n c := (by obtain ⟨A, c, e, _⟩ := rowI_read HI3.out; exact ⟨A, _, c, e⟩))
      refine hK.out _ _ (fun _ => ?_) (fun hHeld => ?_)
      · exact ⟨hwb, HCe.out.keep (HB.out.trans (HD2.out.mono hwb)), HD2.out.mono hwb⟩
      focus (have hHeld := hHeld (by decide); clear hK K; try simp only [Act.put, List.setIfInBounds_toArray, List.set_cons_zero, List.set_cons_succ])
      refine tl21 ?_ (by decide +kernel) (by rfl) (fun _ _ _ => id) ?_ (by assumption) ?_; rotate_left 1; (focus (intro w_ hSw; have hSw := hSw.cells; simp only [Cells] at hSw; go_simp; all_goals (with_reducible rfl); done)); focus try simp only [Act.put, List.setIfInBounds_toArray, List.set_cons_zero, List.set_cons_succ]
      refine wpAnyL_ready (rs := [22]) (by kernel_rfl) (by simp) (al22 (fun K hK => ?_) (AllReadyL.nil))
      focus (refine sl_newh (.cells #[.slice A3 n3 c3, .int .i64 r.f1] 40) 1 (by kernel_rfl) (by intro w_; go_simp; done) (fun g2_ w2 hg2_ hb2 HP2 => ?_); have HI3 := ri_keep HI3 hb2; have HD3 := Lib.hid (HD2.out.trans (hb2.mono HD2.out.size)))
      refine hK.out _ _ (fun _ => ?_) (fun hHeld => ?_)
      · exact hHeld.keep hb2
      focus (have hHeld := hHeld (by decide); clear hK K; try simp only [Act.put, List.setIfInBounds_toArray, List.set_cons_zero, List.set_cons_succ])
      refine wpAnyL_ready (rs := [23]) (by kernel_rfl) (by simp) (al23 (fun K hK => ?_) (AllReadyL.nil))
      focus (refine stepRows rfl (.tmp 15) (.tmp 37) rfl w.heap.size _ _ [⟨t, r.f1⟩] raws [.slice A3 n3 c3, .int .i64 r.f1] (some ⟨g2_, 0, none⟩) 1 1 rfl rfl (HO.out.below HD3.out) rfl (raw_lit HP2 rfl rfl) (fun W hW => encOne HI3.out hW) HL.out (Nat.le_trans hwb HD3.out.size) ?_; intro v5 w5 HO5 HB5 HG5)
      refine hK.out _ _ (fun _ => ?_) (fun hHeld => ?_)
      · exact ⟨hwb, HCe.out.keep (HB.out.trans ((HD3.out.mono hwb).trans HB5.out)), (HD3.out.mono hwb).trans HB5.out⟩
      focus (have hHeld := hHeld (by decide); clear hK K; try simp only [Act.put, List.setIfInBounds_toArray, List.set_cons_zero, List.set_cons_succ])
      refine wpAnyL_ready (rs := [24]) (by kernel_rfl) (by simp) (al24 (fun K hK => ?_) (AllReadyL.nil))
      focus go_simp
      refine hK.out _ _ (fun h => absurd rfl h) (fun _ => ?_)
      focus (clear hK K; try simp only [Act.put, List.setIfInBounds_toArray, List.set_cons_zero, List.set_cons_succ])
      refine wpAnyL_done (by kernel_rfl) ?_ _; rotate_left 1
      have HB9 := Lib.hid (HB.out.trans ((HD3.out.mono hwb).trans HB5.out))
      go_wp2
      refine ⟨⟨i + 1, _, HII.out.2.1, HII.out.2.2, congrArg (Value.int .i64) EWi.out, Lib.hid (by rw [HT.out, HRR.out]; exact HO5.out), HB9⟩, ?_⟩
      rw [EWi.out]
      simp only [intOf, Int.toNat_natCast]
      exact meas_lt HII.out.2.1
    · have hs : fewL l = (l.take i).map cutR := by
        unfold fewL
        rcases Nat.lt_or_ge i l.length with h1 | h1
        · have : i = 20 := by omega
          rw [this]
        · rw [List.take_of_length_le h1, List.take_of_length_le (by omega)]
      have HS := Lib.hid hs
      by_cases h1 : i < l.length
      · have e1 : (i < l.length) = True := eq_true h1
        have e2 : (i < 20) = False := eq_false (by omega)
        have e2' : ((i : Int) < 20) = False := eq_false (by omega)
        clear hs hb h1 hi hi3
        go_wp2
        go_ret
        exact ⟨_, _, rfl, by rw [HS.out]; exact HO.out, HB.out⟩
      · have e1 : (i < l.length) = False := eq_false h1
        clear hs hb h1 hi hi3
        go_wp2
        go_ret
        exact ⟨_, _, rfl, by rw [HS.out]; exact HO.out, HB.out⟩
end Go.Proofs.YtbpjnkeilhfajaaGreat.Rw
