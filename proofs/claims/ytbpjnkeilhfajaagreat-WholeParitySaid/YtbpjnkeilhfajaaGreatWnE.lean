import Derived.Test.YtbpjnkeilhfajaaGreatTl
import Derived.Test.YtbpjnkeilhfajaaGreatWnD
import Derived.Test.YtbpjnkeilhfajaaGreatLnS3
section
/- whole.Solve's search. -/
namespace Go.Proofs
theorem Zp4x {p q : Prop} (hq : q) (h : p = q := by first | (simp only [Act.put, List.setIfInBounds_toArray, List.set_cons_zero, List.set_cons_succ]; done) | (simp only [Act.put, List.setIfInBounds_toArray, List.set_cons_zero, List.set_cons_succ]; rfl) | rfl) : p := Eq.mpr h hq
theorem Z4x0 {p : Prop} (h : p := by dsimp only; omega) : p := h
theorem Z4x1 {p : Prop} (h : p := by decide +kernel) : p := h
theorem Z4x2 {p : Prop} (h : p := by (intro w_ hSw; simp only [Cells] at hSw; go_simp; all_goals (with_reducible rfl); done)) : p := h
end Go.Proofs
namespace Go.Proofs.YtbpjnkeilhfajaaGreat.Ln
open Go.RowKit Go.Proofs.YtbpjnkeilhfajaaGreat.Num Go.Proofs.YtbpjnkeilhfajaaGreat.Given Go.Proofs.YtbpjnkeilhfajaaGreat.Lin Go.Proofs.YtbpjnkeilhfajaaGreatW.PrintWords
set_option linter.unusedVariables false
set_option linter.unusedSimpArgs false
def SolC : Prop := ∀ (l : List S40) (A : Option Addr) (c : Nat) (v fuel : Int) (w : World), Kd.C k40 w A l.length l → l.length ≤ c → (∀ r, r ∈ l → RowIn r) → In64 fuel → ((∀ x, x ∈ (solve (l.map toZ) v fuel).2.1 → Fit x) ∧ (solve (l.map toZ) v fuel).2.1.length ≤ 64 ∧ ((solve (l.map toZ) v fuel).1 = 1 → 0 ≤ v ∧ v ≤ 64)) ∧
  Calls Tryz.prog 19 #[.slice A l.length c, .int .i64 v, .int .i64 fuel] w fun e w' => (∃ vp vw, e = .returned (.tuple #[.int .i64 (solve (l.map toZ) v fuel).1, vp, vw]) ∧ RowQ w' w.heap.size vp (solve (l.map toZ) v fuel).2.1) ∧ Below w.heap.size w w'
theorem WBx.low {w w1 : World} {fb vb pb bb sb B : Nat} {v fuel : Int} {pv : Value} (h : WBx w fb vb pb bb sb v fuel pv) (hb : Below B w w1) (hl : fb < B ∧ vb < B ∧ pb < B ∧ bb < B ∧ sb < B) : WBx w1 fb vb pb bb sb v fuel pv :=
 ⟨(hb.block _ hl.1).trans h.kf, (hb.block _ hl.2.1).trans h.kv, (hb.block _ hl.2.2.1).trans h.kp, (hb.block _ hl.2.2.2.1).trans h.kb, (hb.block _ hl.2.2.2.2).trans h.ks⟩
theorem WBx.lt {w : World} {fb vb pb bb sb : Nat} {v fuel : Int} {pv : Value} (h : WBx w fb vb pb bb sb v fuel pv) : fb < w.heap.size ∧ vb < w.heap.size ∧ pb < w.heap.size ∧ bb < w.heap.size ∧ sb < w.heap.size := ⟨blk_lt h.kf, blk_lt h.kv, blk_lt h.kp, blk_lt h.kb, blk_lt h.ks⟩
theorem own_sl {w : World} {base : Nat} {e : TypeId} {size n : Nat} {v : Value} {xs : List Value} (h : w.ownsRow base e size v n xs) : ∃ A c, v = .slice A n c := by
 rcases h.2 with ⟨e, h0⟩ | ⟨g, cap, cur, e, _⟩
 ·exact ⟨none, 0, by rw [e, h0]⟩
 ·exact ⟨_, _, e⟩
theorem Fp.low {S : Nat → Prop} {w w1 w2 : World} (h : Fp S w w1) (hb : Below w.heap.size w1 w2) : Fp S w w2 := ⟨hb.os.trans h.os, hb.tape.trans h.tape, hb.output.trans h.output, Nat.le_trans h.size hb.size, fun k hk hn => (hb.block k hk).trans (h.block k hk hn)⟩
theorem WBx.point {w : World} {fb vb pb bb sb : Nat} {v fuel : Int} {pv : Value} (h : WBx w fb vb pb bb sb v fuel pv) (ha : Apart fb vb pb bb sb) (u : Value) : WBx (w.setCell ⟨pb, 0, none⟩ u) fb vb pb bb sb v fuel u := by
 unfold Apart at ha
 exact ⟨blk_far h.kf Z4x0 _, blk_far h.kv Z4x0 _, blk_put h.kp 0 _ rfl, blk_far h.kb Z4x0 _, blk_far h.ks Z4x0 _⟩
theorem WBx.fuel {w : World} {fb vb pb bb sb : Nat} {v fuel : Int} {pv : Value} (h : WBx w fb vb pb bb sb v fuel pv) (ha : Apart fb vb pb bb sb) (f : Int) : WBx (w.setCell ⟨fb, 0, none⟩ (.int .i64 f)) fb vb pb bb sb v f pv := by
 unfold Apart at ha
 exact ⟨blk_put h.kf 0 _ rfl, blk_far h.kv Z4x0 _, blk_far h.kp Z4x0 _, blk_far h.kb Z4x0 _, blk_far h.ks Z4x0 _⟩
theorem bnd_intK {fb pb g vars i : Nat} {s : Int} {cs : Array Value} {w : World} (hb : w.heap[g]? = some (.cells cs 2 (0, 0))) (hcs : ∀ (j : Nat) (x : Int), ((List.replicate vars (0 : Int)).set i s)[j]? = some x → cs[j]? = some (Value.int .i64 x)) (hn : vars ≤ 64) (hg : g ≠ fb ∧ g ≠ pb) : IntK fb pb w (some ⟨g, 0, none⟩) ((List.replicate vars (0 : Int)).set i s) := fun W' hf =>
 C_cells ((hf.block g (blk_lt hb) (fun h => h.elim hg.1 hg.2)).trans hb) hcs (by simp; omega)
theorem bnd_in {vars i : Nat} {s k : Int} (hs : In64 s) (hk : In64 k) : RowIn ⟨(List.replicate vars (0 : Int)).set i s, k⟩ := by
 refine ⟨hk, fun x hx => ?_⟩
 rcases List.mem_or_eq_of_mem_set hx with h | h
 ·rw [List.eq_of_mem_replicate h]; decide
 ·rw [h]; exact hs
theorem both_bnd {fb vb pb bb sb vars : Nat} {B d : Nat} (hap : Apart fb vb pb bb sb) (hS : Search fb vb pb bb sb (vars : Int) B d) (hv : vars ≤ 64) (f : Nat) (fuel : Int) (l : List S40) (raws : List Value) (A : Option Addr) (c : Nat) (i : Nat) (k1 k2 : Int) (g1 g2 : Nat) (cs1 cs2 : Array Value) (w : World) (hfd : f ≤ d) (hff : fuel.toNat = f) (hf64 : In64 fuel) (hld : l.length + 1 + d ≤ 100000)
  (hC : RowsK fb pb w A l raws) (hc : l.length ≤ c) (hin : ∀ r, r ∈ l → RowIn r) (hb1 : w.heap[g1]? = some (.cells cs1 2 (0, 0))) (hc1 : ∀ (j : Nat) (x : Int), ((List.replicate vars (0 : Int)).set i 1)[j]? = some x → cs1[j]? = some (Value.int .i64 x)) (hb2 : w.heap[g2]? = some (.cells cs2 2 (0, 0))) (hc2 : ∀ (j : Nat) (x : Int), ((List.replicate vars (0 : Int)).set i (-1))[j]? = some x → cs2[j]? = some (Value.int .i64 x)) (hg1 : g1 ≠ fb ∧ g1 ≠ pb) (hg2 : g2 ≠ fb ∧ g2 ≠ pb) (hk1 : In64 k1) (hk2 : In64 k2) (hX : WBx w fb vb pb bb sb (vars : Int) fuel (.slice none 0 0)) (hB : B ≤ w.heap.size) :
  Calls Tryz.prog 74 #[.slice A l.length c, .agg #[.slice (some ⟨g1, 0, none⟩) vars vars, .int .i64 k1], .agg #[.slice (some ⟨g2, 0, none⟩) vars vars, .int .i64 k2], .pointer (some ⟨sb, 0, none⟩)] w (SrEnd fb vb pb bb sb (vars : Int) B w (bothF (vars : Int) d f (l.map toZ ++ [bnd vars i 1 k1]) (l.map toZ ++ [bnd vars i (-1) k2]))) := by
 have n1 : ((List.replicate vars (0 : Int)).set i 1).length = vars := by simp
 have n2 : ((List.replicate vars (0 : Int)).set i (-1)).length = vars := by simp
 have h := both_any (v := (vars : Int)) (B := B) hap hS f fuel l raws A c ⟨(List.replicate vars (0 : Int)).set i 1, k1⟩ ⟨(List.replicate vars (0 : Int)).set i (-1), k2⟩ (some ⟨g1, 0, none⟩) (some ⟨g2, 0, none⟩) vars vars w hfd hff hf64 hld hC hc hin (bnd_in (by decide) hk1) (bnd_in (by decide) hk2) (bnd_intK hb1 hc1 hv hg1) (Nat.le_of_eq n1) (bnd_intK hb2 hc2 hv hg2) (Nat.le_of_eq n2) hX hB
 dsimp only at h
 rw [n1, n2, List.map_append, List.map_append] at h
 exact h
set_option maxHeartbeats 64000000 in
set_option maxRecDepth 100000 in
theorem search_any (hsol : SolC) {fb vb pb bb sb : Nat} {v : Int} {B : Nat} (hap : Apart fb vb pb bb sb) : ∀ d, Search fb vb pb bb sb v B d := by
 intro d
 induction d with
 | zero =>
  intro f fuel l raws A c w hfd hff hf64 hld hC hc hin hX hB
  have e1 : (fuel ≤ 0) = True := eq_true (by omega)
  have q0 : w.cell? ⟨fb, 0, none⟩ = some (.int .i64 fuel) := blk_cell hX.kf 0
  have HH := Lib.hid (show fuel.toNat = f ∧ In64 fuel ∧ f = 0 ∧ WBx w fb vb pb bb sb v fuel (.slice none 0 0) from ⟨hff, hf64, by omega, hX⟩)
  clear hfd hff hf64 hld hC hc hin hX hB
  go_enter Tryz.func76, Tryz.ntmps76
  go_wp2
  go_ret
  obtain ⟨h1, h2, h3, h4⟩ := HH.out
  exact ⟨by rw [h3]; rfl, Fp.refl _ _, fuel, _, h4, h2, h1, ⟨rfl, .inl ⟨rfl, rfl⟩⟩, fun _ => rfl⟩
 | succ d ih =>
  intro f fuel l raws A c w hfd hff hf64 hld hC hc hin hX hB
  have q0 : w.cell? ⟨fb, 0, none⟩ = some (.int .i64 fuel) := blk_cell hX.kf 0
  by_cases hfu : fuel ≤ 0
  ·have e1 : (fuel ≤ 0) = True := eq_true hfu
   have HH := Lib.hid (show fuel.toNat = f ∧ In64 fuel ∧ f = 0 ∧ WBx w fb vb pb bb sb v fuel (.slice none 0 0) from ⟨hff, hf64, by omega, hX⟩)
   clear hfd hff hf64 hld hC hc hin hX hB hfu ih
   go_enter Tryz.func76, Tryz.ntmps76
   go_wp2
   go_ret
   obtain ⟨h1, h2, h3, h4⟩ := HH.out
   exact ⟨by rw [h3]; rfl, Fp.refl _ _, fuel, _, h4, h2, by rw [h1, h3]; rfl, by rw [h3]; exact ⟨rfl, .inl ⟨rfl, rfl⟩⟩, fun _ => rfl⟩
  ·obtain ⟨f', rfl⟩ : ∃ f', f = f' + 1 := ⟨f - 1, by omega⟩
   have e1 : (fuel ≤ 0) = False := eq_false hfu
   have w1 : wrap64 (fuel - 1) = fuel - 1 := wrap64_in ⟨by omega, by have := hf64.2; omega⟩
   have q2 : w.cell? ⟨vb, 0, none⟩ = some (.int .i64 v) := blk_cell hX.kv 0
   have f0 : w.frozen? ⟨fb, 0, none⟩ = false := blk_frozen hX.kf 0
   have hne : (vb = fb) = False := eq_false (fun h => hap.1 h.symm)
   have hne2 : (fb = vb) = False := eq_false hap.1
   have hF1 : Fp (fun k => k = fb ∨ k = pb) w (w.setCell ⟨fb, 0, none⟩ (.int .i64 (fuel - 1))) := (Fp.refl _ _).setCell (fun _ => .inl rfl) _
   have HX1 := Lib.hid (hX.fuel hap (fuel - 1))
   have HC1 := Lib.hid (hC.step hF1)
   have HF1 := Lib.hid hF1
   have HN := Lib.hid (show f' ≤ d ∧ (fuel - 1).toNat = f' ∧ In64 (fuel - 1) ∧ l.length + 1 + d ≤ 100000 ∧ l.length ≤ c ∧ B ≤ w.heap.size from ⟨by omega, by omega, ⟨by omega, by have := hf64.2; omega⟩, by omega, hc, hB⟩)
   have HIN := Lib.hid hin
   have HAP := Lib.hid hap
   have IH := Lib.hid ih
   have HSOL := Lib.hid hsol
   clear hfd hff hf64 hld hC hc hin hX hB hfu ih hF1 hsol hap
   go_enter Tryz.func76, Tryz.ntmps76
   go_wp2_with fail
   have hB1 : B ≤ (w.setCell ⟨fb, 0, none⟩ (.int .i64 (fuel - 1))).heap.size := by simp; exact HN.out.2.2.2.2.2
   generalize w.setCell ⟨fb, 0, none⟩ (.int .i64 (fuel - 1)) = wA at HX1 HC1 HF1 hB1 ⊢
   have HB1 := Lib.hid hB1
   obtain ⟨hfit, hcall⟩ := HSOL.out l A c v 10000 wA HC1.out.C HN.out.2.2.2.2.1 HIN.out (by decide)
   obtain ⟨s, hs⟩ : ∃ s, solve (l.map toZ) v 10000 = s := ⟨_, rfl⟩
   rw [hs] at hfit hcall
   have HFIT := Lib.hid hfit
   have HCALL := Lib.hid hcall
   have HST := Lib.hid hs
   clear hB1 hfit hcall hs q0 q2 f0 hne hne2 w1 e1
   refine HCALL.out.mono ?_
   rintro e w2 ⟨⟨vp, vw, rfl, hRQ⟩, hb1⟩
   have HF2 := Lib.hid (HF1.out.tr (Fp.of_below hb1))
   have HX2 := Lib.hid (HX1.out.below hb1)
   have HC2 := Lib.hid (HC1.out.step (Fp.of_below hb1))
   have HB2 := Lib.hid (Nat.le_trans HB1.out hb1.size)
   have HLT := Lib.hid HX1.out.lt
   have HRQ := Lib.hid hRQ
   clear hb1 hRQ HX1 HC1 HF1 HCALL
   have hstep := srch_step v d f' (l.map toZ) HST.out
   by_cases h1 : s.1 = 1
   ·have e1 : (s.1 = 1) = True := eq_true h1
    have e1b : (s.1 != 1) = false := by rw [h1]; rfl
    have H1 := Lib.hid h1
    have HSTEP := Lib.hid hstep
    clear hstep h1
    obtain ⟨A1, c1, rfl, hc1⟩ := row_open HRQ.out
    have hidx : (∀ W : World, Calls Tryz.prog 77 #[.slice A1 s.2.1.length c1, .func (.func 78) #[] #[]] w2 fun e w' => e = .returned (.int .i64 (match fracI s.2.1 with | none => -1 | some i => (i : Int))) ∧ Below w2.heap.size w2 w') := by
     obtain ⟨A2, c2, e, h1, h2⟩ := Kd.R_reads (RowQ.toR HRQ.out)
     injection e with e1 e2 e3
     subst e1; subst e3
     have h4 := idxW (fun x => x.f1 != 1) _ A1 c1 w2 w2 h2 h1 (Below.refl _ _) (fun x hx W hW => frac_clo x W)
     rw [frac_idx] at h4
     rw [List.length_map] at h4
     exact fun _ => h4
    have HIDX := Lib.hid (hidx w2)
    have HMAX := Lib.hid HFIT.out.2.1
    have HNB := Lib.hid (show ∀ k, (Value.slice A1 s.2.1.length c1).ownBlock = some k → ¬ (k = fb ∨ k = pb) from fun k hk => by have := (HRQ.out.lt k hk).1; have := HLT.out; omega)
    clear hidx hc1
    go_wp2_with fail
    refine HIDX.out.mono ?_
    rintro e w3 ⟨rfl, hb3⟩
    have HF3 := Lib.hid (HF2.out.tr (Fp.of_below hb3))
    have HX3 := Lib.hid (HX2.out.below hb3)
    have HC3 := Lib.hid (HC2.out.step (Fp.of_below hb3))
    have HB3 := Lib.hid (Nat.le_trans HB2.out hb3.size)
    have HRQ3 := Lib.hid (HRQ.out.below hb3)
    have HLT3 := Lib.hid HX3.out.lt
    clear hb3 HRQ HF2 HX2 HC2 HB2 HLT HIDX
    cases hfr : fracI s.2.1 with
    | none =>
     have er : srch v (d + 1) (f' + 1) (l.map toZ) = (1, f', s.2.1.map (·.num)) := by
      rcases HSTEP.out with ⟨h, _⟩ | ⟨_, _, h⟩ | ⟨_, _, _, _, h, _⟩
      ·exact (h H1.out).elim
      ·exact h
      ·rw [hfr] at h; cases h
     have ER := Lib.hid er
     clear er hfr
     dsimp only
     have e2 : ((-1 : Int) < 0) = True := eq_true (by decide)
     go_wp2
     go_loopw [35] (fun v35 wr => ∃ (k : Nat) (pv : Value), k ≤ s.2.1.length ∧ v35 = .int .i64 k ∧ WBx wr fb vb pb bb sb v (fuel - 1) pv ∧ RowI wr w3.heap.size pv ((s.2.1.take k).map (·.num)) ∧ Fp (fun k => k = fb ∨ k = pb) w3 wr) (fun v35 _ => s.2.1.length - (intOf v35).toNat)
     case atStart => exact ⟨0, _, Nat.zero_le _, rfl, HX3.out, ⟨rfl, .inl ⟨rfl, rfl⟩⟩, Fp.refl _ _⟩
     case round =>
      obtain ⟨k, pv, hk, rfl, hXr, hI, hFr⟩ := hrel
      by_cases hkl : k < s.2.1.length
      ·have e3 : ((k : Int) < (s.2.1.length : Int)) = True := eq_true (by omega)
       obtain ⟨g, cap, e, hge, hcap, q1, q2, q3⟩ := rowQ_rd (show RowQ wr _ _ s.2.1 from own_fp HRQ3.out hFr HNB.out) hkl
       injection e with e1 e2 e3
       subst e1; subst e3
       obtain ⟨x, hx⟩ : ∃ x, rdQ s.2.1 k = x := ⟨_, rfl⟩
       have hsn : (s.2.1.take (k + 1)).map (·.num) = (s.2.1.take k).map (·.num) ++ [x.num] := by rw [List.take_add_one, List.getElem?_eq_getElem hkl, rdQ_get hkl, hx, List.map_append]; rfl
       rw [hx] at q1 q2
       have HSN := Lib.hid hsn
       have q4 : wr.cell? ⟨pb, 0, none⟩ = some pv := blk_cell hXr.kp 0
       have hlt := hXr.lt.2.2.1
       have hlt2 : pb < wr.heap.size + 1 := by omega
       have hkk : ((s.2.1.take k).map (·.num)).length = k := by rw [List.length_map, List.length_take]; omega
       have HXR := Lib.hid hXr
       have HIR := Lib.hid hI
       have HFR := Lib.hid hFr
       have HK := Lib.hid (And.intro hk (And.intro hkl hkk))
       clear hk hkl hXr hI hFr hge hcap hx hkk hsn
       go_wp2_with (at_builtin; refine Hid.out ?_)
       refine Lib.hid ?_
       have HBa := Lib.hid (show Below w3.heap.size wr ((wr.alloc (.cells #[.int .i64 x.num, .int .i64 x.den] 28)).alloc (.cells #[.int .i64 x.num] 2)) from (((Below.refl _ _).alloc HFR.out.size _).alloc (by simp; have := HFR.out.size; omega) _))
       have HIa := own_keepB HIR (w1 := (wr.alloc (.cells #[.int .i64 x.num, .int .i64 x.den] 28)).alloc (.cells #[.int .i64 x.num] 2)) (((Below.refl _ _).alloc (Nat.le_refl _) _).alloc (by simp) _)
       have HSZ := Lib.hid (show w3.heap.size ≤ wr.heap.size + 1 + 1 by have := HFR.out.size; omega)
       refine wpList_app rfl (.tmp 39) (.tmp 42) _ rfl w3.heap.size 2 (.int .i64 0) 1 8 Tryz.underlying23 infoI rfl (by decide) _ k (intv ((s.2.1.take k).map (fun y : Rat => y.num))) rfl (RowI.at HIa.out HK.out.2.2) ⟨wr.heap.size + 1, 0, none⟩ 1 1 [.int .i64 x.num] rfl rfl ?_ ?_ ?_ ?_ ?_ ?_
       ·intro j_ u_ hu_
        match j_, hu_ with
        | 0, hu_ => cases hu_; rw [add_z]; exact blk_cell (blk_newk2 (by simp)) 0
        | j_ + 1, hu_ => cases hu_
       ·intro u hu
        rw [List.mem_singleton.1 hu]; rfl
       ·have := HK.out; have := HMAX.out; unfold maxLen; omega
       ·have := HK.out; have := HMAX.out; omega
       ·simp; exact HSZ.out
       intro v8 w4 ho8 hg8 hat8
       obtain ⟨A8, c8, rfl⟩ := own_sl ho8
       have HB4 := Lib.hid (show Below w3.heap.size wr w4 from Below.grown HBa.out hg8 (by simp; exact HSZ.out) (fun j hj => (HIR.out.lt j hj).1))
       have HXW := Lib.hid (HXR.out.low HB4.out HLT3.out)
       have q5 : w4.frozen? ⟨pb, 0, none⟩ = false := blk_frozen HXW.out.kp 0
       have q6 : w4.cell? ⟨pb, 0, none⟩ = some pv := blk_cell HXW.out.kp 0
       have HO8 := Lib.hid ho8
       have EW := Lib.hid (wrapj (show k + 1 < 9223372036854775808 by have := HK.out; have := HMAX.out; omega))
       clear ho8 hg8 hat8 HIa HBa q1 q2 q3 q4
       go_wp2
       refine ⟨⟨k + 1, _, HK.out.2.1, congrArg (Value.int .i64) EW.out, HXW.out.point HAP.out _, ?_, ?_⟩, ?_⟩
       ·rw [HSN.out]
        unfold RowI
        rw [List.length_append, HK.out.2.2, List.length_singleton]
        refine own_far (by have := HO8.out; simpa [intv] using this) (fun e => ?_) _
        have := (HO8.out.lt _ e).1
        have := HLT3.out
        omega
       ·exact (HFR.out.low HB4.out).setCell (fun _ => .inr rfl) _
       ·rw [EW.out]
        simp only [intOf, Int.toNat_natCast]
        exact meas_lt HK.out.2.1
      ·have e3 : ((k : Int) < (s.2.1.length : Int)) = False := eq_false (by omega)
       rw [List.take_of_length_le (by omega)] at hI
       have HE := Lib.hid (show _ ∧ _ ∧ _ from ⟨hXr, hI, hFr⟩)
       clear hk hkl hXr hI hFr
       go_wp2
       go_ret
       rw [ER.out]
       exact ⟨rfl, HF3.out.tr HE.out.2.2, fuel - 1, pv, HE.out.1, HN.out.2.2.1, HN.out.2.1, own_less HE.out.2.1 HB3.out, fun h => (h rfl).elim⟩
    | some i =>
     have hv64 := HFIT.out.2.2 H1.out
     have hi := (frac_some hfr)
     have er : srch v (d + 1) (f' + 1) (l.map toZ) = bothF v d f' (l.map toZ ++ [bnd v.toNat i 1 (-(rdQ s.2.1 i).floor)]) (l.map toZ ++ [bnd v.toNat i (-1) (rdQ s.2.1 i).ceil]) := by
      have := srch_both (v := v) (d := d) (f := f') (z := l.map toZ) (i := i) (by rw [HST.out]; exact H1.out) (by rw [HST.out]; exact hfr)
      rwa [HST.out] at this
     have hlt : i < v.toNat := frac_lt (vars := v) (rows := l.map toZ) (by rw [HST.out]; exact H1.out) (by rw [HST.out]; exact hfr)
     obtain ⟨vars, rfl⟩ : ∃ n : Nat, v = (n : Int) := ⟨v.toNat, by have := hv64.1; omega⟩
     have HV := Lib.hid (show vars ≤ 64 by have := hv64.2; omega)
     clear hv64
     rw [Int.toNat_natCast] at er hlt
     obtain ⟨x, hx⟩ : ∃ x, rdQ s.2.1 i = x := ⟨_, rfl⟩
     have hfx : Fit x := by rw [← hx, ← rdQ_get hi.1]; exact HFIT.out.1 _ (List.getElem_mem hi.1)
     rw [hx] at er hi
     obtain ⟨g, cap, e, hge, hcap, q1, q2, q3⟩ := rowQ_rd HRQ3.out hi.1
     injection e with e1 e2 e3
     subst e1; subst e3
     rw [hx] at q1 q2
     have e2 : ((i : Int) < 0) = False := eq_false (by omega)
     have e3 : ((i : Int) < (s.2.1.length : Int)) = True := eq_true (by have := hi.1; omega)
     have e4 : (i < s.2.1.length) = True := eq_true hi.1
     have hh := floor_half hfx hi.2
     have HFQ := Lib.hid (fun W => floor_q hfx W)
     have HCQ := Lib.hid (fun W => ceil_q hfx hi.2 W)
     have HNQ := Lib.hid (fun W => neg_ok (floor_in hfx) hh.1 W)
     have HCF := Lib.hid (ceil_floor hi.2)
     have HH := Lib.hid hh
     have HQ := Lib.hid (And.intro q1 q2)
     have HG := Lib.hid (show g < w3.heap.size ∧ i < vars from ⟨World.block_lt_of_cell? w3 _ q1, hlt⟩)
     have ER := Lib.hid er
     clear er hfr hi hge hcap hh hfx hlt hx
     dsimp only
     go_wp2_with fail
     refine (HFQ.out _).mono ?_
     rintro e w4 ⟨rfl, hb4⟩
     have HB4 := Lib.hid hb4
     clear hb4
     go_wp2_with fail
     refine (HNQ.out _).mono ?_
     rintro e w5 ⟨rfl, hb5⟩
     have HB5 := Lib.hid (HB4.out.trans (hb5.mono HB4.out.size))
     clear hb5 HB4 q1 q2 q3 HFQ HNQ
     have HX5 := Lib.hid (HX3.out.below HB5.out)
     have HF5 := Lib.hid (Fp.of_below (S := fun k => k = fb ∨ k = pb) HB5.out)
     have HCL := Lib.hid (show Cells [(⟨bb, 0, none⟩, .func (.func 74) #[] #[.pointer (some ⟨sb, 0, none⟩)]), (⟨vb, 0, none⟩, .int .i64 (vars : Int)), (⟨g, i * 2, none⟩, .int .i64 x.num), (⟨g, i * 2 + 1, none⟩, .int .i64 x.den)] w5 from ⟨blk_cell HX5.out.kb 0, blk_cell HX5.out.kv 0, kcell HB5.out HQ.out.1, kcell HB5.out HQ.out.2, trivial⟩)
     have HGN := Lib.hid (HNB.out g rfl)
     go_wp2_with fail
     have HBW := Lib.hid ((Below.refl w5.heap.size w5).drew)
     refine wp_region_L 15 (Cells _) (by kernel_rfl) (HCL.out.keep ((Below.refl _ _).drew)) (fun hHeld => ?_)
     refine tl0 ?_ Z4x1 (by rfl) (fun _ _ _ => id) ?_ (by assumption) ?_; rotate_left 1; (focus exact Z4x2); focus try simp only [Act.put, List.setIfInBounds_toArray, List.set_cons_zero, List.set_cons_succ]
     refine tl1 ?_ Z4x1 (by rfl) (fun _ _ _ => id) ?_ (by assumption) ?_; rotate_left 1; (focus exact Z4x2); focus try simp only [Act.put, List.setIfInBounds_toArray, List.set_cons_zero, List.set_cons_succ]
     refine tl2 ?_ Z4x1 (by rfl) (fun _ _ _ => id) ?_ (by assumption) ?_; rotate_left 1; (focus exact Z4x2); focus try simp only [Act.put, List.setIfInBounds_toArray, List.set_cons_zero, List.set_cons_succ]
     refine tl3 ?_ Z4x1 (by rfl) (fun _ _ _ => id) ?_ (by assumption) ?_; rotate_left 1; (focus exact Z4x2); focus try simp only [Act.put, List.setIfInBounds_toArray, List.set_cons_zero, List.set_cons_succ]
     refine tl4 ?_ Z4x1 (by rfl) (fun _ _ _ => id) ?_ (by assumption) ?_; rotate_left 1; (focus exact Z4x2); focus try simp only [Act.put, List.setIfInBounds_toArray, List.set_cons_zero, List.set_cons_succ]
     refine tl6 ?_ Z4x1 (by rfl) (fun _ _ _ => id) ?_ (by assumption) ?_; rotate_left 1; (focus exact Z4x2); focus try simp only [Act.put, List.setIfInBounds_toArray, List.set_cons_zero, List.set_cons_succ]
     refine tl7 ?_ Z4x1 (by rfl) (fun _ _ _ => id) ?_ (by assumption) ?_; rotate_left 1; (focus exact Z4x2); focus try simp only [Act.put, List.setIfInBounds_toArray, List.set_cons_zero, List.set_cons_succ]
     refine tl8 ?_ Z4x1 (by rfl) (fun _ _ _ => id) ?_ (by assumption) ?_; rotate_left 1; (focus exact Z4x2); focus try simp only [Act.put, List.setIfInBounds_toArray, List.set_cons_zero, List.set_cons_succ]
     refine tl9 ?_ Z4x1 (by rfl) (fun _ _ _ => id) ?_ (by assumption) ?_; rotate_left 1; (focus exact Z4x2); focus try simp only [Act.put, List.setIfInBounds_toArray, List.set_cons_zero, List.set_cons_succ]
     refine tl10 ?_ Z4x1 (by rfl) (fun _ _ _ => id) ?_ (by assumption) ?_; rotate_left 1; (focus exact Z4x2); focus try simp only [Act.put, List.setIfInBounds_toArray, List.set_cons_zero, List.set_cons_succ]
     refine tl11 ?_ Z4x1 (by rfl) (fun _ _ _ => id) ?_ (by assumption) ?_; rotate_left 1; (focus exact Z4x2); focus try simp only [Act.put, List.setIfInBounds_toArray, List.set_cons_zero, List.set_cons_succ]
     refine wpAnyL_ready (rs := [5]) (by kernel_rfl) (by simp) (al5 (fun K hK => ?_) (AllReadyL.nil))
     focus go_simp
     focus (refine (bound_any (i := i) (vars := vars) (s := 1) (k := -x.floor) HG.out.2 HV.out _).mono ?_; rintro e w6_ ⟨⟨g5_, cs5_, rfl, hg5_, hb5_, hc5_⟩, hb2⟩; have HG5 := Lib.hid (show w5.heap.size ≤ g5_ from Nat.le_trans HBW.out.size hg5_); have HC5 := Lib.hid hc5_; have HP5 := Lib.hid (And.intro hb5_ (blk_lt hb5_)); have HBW := Lib.hid (HBW.out.trans (hb2.mono HBW.out.size)))
     focus try simp only []
     refine hK.out _ _ (fun _ => ?_) (fun hHeld => ?_)
     ·exact hHeld.keep hb2
     focus (have hHeld := hHeld (by decide); clear hK K; refine Zp4x ?_)
     refine wpAnyL_ready (rs := [12]) (by kernel_rfl) (by simp) (al12 (fun K hK => ?_) (AllReadyL.nil))
     focus go_simp
     focus (refine (HCQ.out _).mono ?_; rintro e w6_ ⟨rfl, hb2⟩; have HP5 := hp_keep HP5 hb2; have HBW := Lib.hid (HBW.out.trans (hb2.mono HBW.out.size)))
     focus try simp only []
     refine hK.out _ _ (fun _ => ?_) (fun hHeld => ?_)
     ·exact hHeld.keep hb2
     focus (have hHeld := hHeld (by decide); clear hK K; refine Zp4x ?_)
     refine wpAnyL_ready (rs := [13]) (by kernel_rfl) (by simp) (al13 (fun K hK => ?_) (AllReadyL.nil))
     focus go_simp
     focus (refine (bound_any (i := i) (vars := vars) (s := -1) (k := x.ceil) HG.out.2 HV.out _).mono ?_; rintro e w6_ ⟨⟨g13_, cs13_, rfl, hg13_, hb13_, hc13_⟩, hb2⟩; have HP5 := hp_keep HP5 hb2; have HG13 := Lib.hid (show w5.heap.size ≤ g13_ from Nat.le_trans HBW.out.size hg13_); have HC13 := Lib.hid hc13_; have HP13 := Lib.hid (And.intro hb13_ (blk_lt hb13_)); have HBW := Lib.hid (HBW.out.trans (hb2.mono HBW.out.size)))
     focus try simp only []
     refine hK.out _ _ (fun _ => ?_) (fun hHeld => ?_)
     ·exact hHeld.keep hb2
     focus (have hHeld := hHeld (by decide); clear hK K; refine Zp4x ?_)
     refine wpAnyL_ready (rs := [14]) (by kernel_rfl) (by simp) (al14 (fun K hK => ?_) (AllReadyL.nil))
     focus go_simp
     focus (refine (both_bnd HAP.out IH.out HV.out f' (fuel - 1) l raws A c i (-x.floor) x.ceil g5_ g13_ cs5_ cs13_ _ HN.out.1 HN.out.2.1 HN.out.2.2.1 HN.out.2.2.2.1 (HC3.out.step (HF5.out.tr (Fp.of_below HBW.out))) HN.out.2.2.2.2.1 HIN.out HP5.out.1 HC5.out HP13.out.1 HC13.out (by have := HG5.out; have := HX5.out.lt; omega) (by have := HG13.out; have := HX5.out.lt; omega) HH.out.1 (by rw [HCF.out]; exact HH.out.2) (HX5.out.below HBW.out) (Nat.le_trans (Nat.le_trans HB3.out HB5.out.size) HBW.out.size)).mono ?_; rintro e w6_ ⟨rfl, hFp, hend⟩)
     focus try simp only []
     refine hK.out _ _ (fun _ => ?_) (fun hHeld => ?_)
     ·exact ⟨cell_fp hFp hHeld.1 (by have := HAP.out; unfold Apart at this; dsimp only; omega), cell_fp hFp hHeld.2.1 (by have := HAP.out; unfold Apart at this; dsimp only; omega), cell_fp hFp hHeld.2.2.1 HGN.out, cell_fp hFp hHeld.2.2.2.1 HGN.out, trivial⟩
     focus (have hHeld := hHeld (by decide); clear hK K; refine Zp4x ?_)
     refine wpAnyL_ready (rs := [15]) (by kernel_rfl) (by simp) (al15 (fun K hK => ?_) (AllReadyL.nil))
     focus go_simp
     refine hK.out _ _ (fun h => absurd rfl h) (fun _ => ?_)
     focus (clear hK K; refine Zp4x ?_)
     refine wpAnyL_done (by kernel_rfl) ?_ _; rotate_left 1
     all_goals (
      obtain ⟨R, hR⟩ : ∃ R, bothF (vars : Int) d f' (l.map toZ ++ [bnd vars i 1 (-x.floor)]) (l.map toZ ++ [bnd vars i (-1) x.ceil]) = R := ⟨_, rfl⟩
      rw [hR] at hend ⊢
      have ER2 := Lib.hid (ER.out.trans hR)
      have HSE := Lib.hid (And.intro hFp hend)
      clear hFp hend hR
      go_wp2
      go_ret
      rw [ER2.out]
      exact ⟨rfl, (HF3.out.tr (HF5.out.tr (Fp.of_below HBW.out))).tr HSE.out.1, HSE.out.2⟩)
   ·have e1 : (s.1 = 1) = False := eq_false h1
    have e1b : (s.1 != 1) = true := bne_iff_ne.2 h1
    have er : srch v (d + 1) (f' + 1) (l.map toZ) = (s.1, f', []) := by
     rcases hstep with ⟨_, h⟩ | ⟨h, _⟩ | ⟨_, _, _, h, _⟩
     ·exact h
     ·exact (h1 h).elim
     ·exact (h1 h).elim
    have ER := Lib.hid er
    clear hstep er h1
    go_wp2
    go_ret
    rw [ER.out]
    exact ⟨rfl, HF2.out, fuel - 1, _, HX2.out, HN.out.2.2.1, HN.out.2.1, ⟨rfl, .inl ⟨rfl, rfl⟩⟩, fun _ => rfl⟩
end Go.Proofs.YtbpjnkeilhfajaaGreat.Ln
end

section
/- whole.Solve. -/
namespace Go.Proofs
theorem Zp4y {p q : Prop} (hq : q) (h : p = q := by first | (simp only [Act.put, List.setIfInBounds_toArray, List.set_cons_zero, List.set_cons_succ]; done) | (simp only [Act.put, List.setIfInBounds_toArray, List.set_cons_zero, List.set_cons_succ]; rfl) | rfl) : p := Eq.mpr h hq
theorem Z4y0 {p : Prop} (h : p := by (intro w_ hSw; simp only [Cells] at hSw; go_simp; all_goals (with_reducible rfl); done)) : p := h
theorem Z4y1 {p : Prop} (h : p := by simp [results, Tryz.results31, go_sem, q0, f0]) : p := h
end Go.Proofs
namespace Go.Proofs.YtbpjnkeilhfajaaGreat.Ln
open Go.RowKit Go.Proofs.YtbpjnkeilhfajaaGreat.Num Go.Proofs.YtbpjnkeilhfajaaGreat.Given Go.Proofs.YtbpjnkeilhfajaaGreat.Lin Go.Proofs.YtbpjnkeilhfajaaGreatW.PrintWords
set_option linter.unusedVariables false
set_option linter.unusedSimpArgs false
theorem run_store_func {P : Program} (a : Addr) (fn : Fn) (x c : Array Value) (m : Mode) (w : World) : (store a (.func fn x c) m).run P w = stored P w a (.func fn x c) m := run_store P w a _ m rfl
theorem loop_len (vars : Nat) : ∀ (f : Nat) (t : Tab) (s : Int × List Rat × List Int), loop vars f t = some s → s.2.1.length ≤ vars := by
 intro f
 induction f with
 | zero =>
  intro t s h
  unfold loop at h
  split at h
  ·cases h; simp; omega
  ·split at h
   ·obtain ⟨w, -, rfl⟩ := Option.map_eq_some_iff.1 h
    simp
   ·cases h; simp
 | succ f ih =>
  intro t s h
  unfold loop at h
  split at h
  ·cases h; simp; omega
  ·split at h
   ·obtain ⟨w, -, rfl⟩ := Option.map_eq_some_iff.1 h
    simp
   ·obtain ⟨t', -, h'⟩ := Option.bind_eq_some_iff.1 h
    exact ih t' s h'
theorem solC : SolC := by
 intro l A c v fuel w hC hc hin hf
 refine ⟨⟨(solve_fit hin v fuel).1, ?_, fun h1 => ?_⟩, ?_⟩
 ·rcases solve_cases (l.map toZ) v fuel with ⟨e, -⟩ | ⟨hm, a, p, ws, ho, e, -⟩
  ·rw [e]; simp
  ·rw [e]
   obtain ⟨t, -, h'⟩ := Option.bind_eq_some_iff.1 ho
   have := loop_len _ _ _ _ h'
   have := mayQ_true hm
   dsimp only at *
   omega
 ·cases hm : mayQ (l.map toZ) v with
  | true => exact ⟨(mayQ_true hm).1, (mayQ_true hm).2.1⟩
  | false => rw [solve_may hm] at h1; cases h1
 ·refine (Solve_any l A c v fuel w hC hc hin hf).mono ?_
  rintro e w' ⟨⟨vp, vw, rfl, hp, hw⟩, hb⟩
  exact ⟨⟨vp, vw, rfl, hp⟩, hb⟩
theorem srch_in (v : Int) : ∀ (d f : Nat) (l : List S40), (∀ r, r ∈ l → RowIn r) → ∀ x, x ∈ (srch v d f (l.map toZ)).2.2 → In64 x := by
 intro d
 induction d with
 | zero => intro f l _ x hx; cases hx
 | succ d ih =>
  intro f l hin x hx
  cases f with
  | zero => cases hx
  | succ f =>
   have hfit := solve_fit hin v 10000
   rcases srch_step v d f (l.map toZ) rfl with ⟨_, h⟩ | ⟨_, _, h⟩ | ⟨i, a, b, h1, h2, ha, hb, h⟩
   ·rw [h] at hx; cases hx
   ·rw [h] at hx
    obtain ⟨y, hy, rfl⟩ := List.mem_map.1 hx
    exact (hfit.1 y hy).1
   ·have hi := frac_some h2
    have hfx : Fit (rdQ (solve (l.map toZ) v 10000).2.1 i) := by rw [← rdQ_get hi.1]; exact hfit.1 _ (List.getElem_mem hi.1)
    have hh := floor_half hfx hi.2
    have hA : ∀ y, y ∈ a.2.2 → In64 y := by
     rw [← ha]
     have := ih f (l ++ [⟨(List.replicate v.toNat (0 : Int)).set i 1, -(rdQ (solve (l.map toZ) v 10000).2.1 i).floor⟩]) (fun r hr => (List.mem_append.1 hr).elim (hin r) (fun h => by rw [List.mem_singleton.1 h]; exact bnd_in (by decide) hh.1))
     rw [List.map_append] at this
     exact this
    have hB : ∀ y, y ∈ b.2.2 → In64 y := by
     rw [← hb]
     have := ih a.2.1 (l ++ [⟨(List.replicate v.toNat (0 : Int)).set i (-1), (rdQ (solve (l.map toZ) v 10000).2.1 i).ceil⟩]) (fun r hr => (List.mem_append.1 hr).elim (hin r) (fun h => by rw [List.mem_singleton.1 h]; exact bnd_in (by decide) (by rw [ceil_floor hi.2]; exact hh.2)))
     rw [List.map_append] at this
     exact this
    rcases h with ⟨_, h⟩ | ⟨_, _, h⟩ | ⟨_, _, h⟩
    ·rw [h] at hx; exact hA x hx
    ·rw [h] at hx; exact hB x hx
    ·rw [h] at hx; cases hx
set_option maxHeartbeats 64000000 in
set_option maxRecDepth 100000 in
theorem wsolve_any (l : List S40) (A : Option Addr) (c : Nat) (v fuel : Int) (w : World) (hC : Kd.C k40 w A l.length l) (hc : l.length ≤ c) (hin : ∀ r, r ∈ l → RowIn r) (hf64 : In64 fuel) (hld : l.length + fuel.toNat ≤ 100000) :
  Calls Tryz.prog 31 #[.slice A l.length c, .int .i64 v, .int .i64 fuel] w fun e w' => (∃ vp, e = .returned (.tuple #[.int .i64 (wsolve (l.map toZ) v fuel (chkW (l.map toZ))).1, vp]) ∧ RowI w' w.heap.size vp (wsolve (l.map toZ) v fuel (chkW (l.map toZ))).2) ∧ Below w.heap.size w w' := by
 have hmf := run_makeFunc
 have hst := run_store_func (P := Tryz.prog)
 obtain ⟨raws, hraw, henc⟩ := raw_of row_one hC (by decide)
 have hap : Apart (w.heap.size + 1) w.heap.size (w.heap.size + 2) (w.heap.size + 4) (w.heap.size + 3) := by unfold Apart; omega
 have HS := Lib.hid (fun (W : World) (hb : Below w.heap.size w W) (hX : WBx W (w.heap.size + 1) w.heap.size (w.heap.size + 2) (w.heap.size + 4) (w.heap.size + 3) v fuel (.slice none 0 0)) =>
  search_any (B := w.heap.size) solC hap fuel.toNat fuel.toNat fuel l raws A c W (Nat.le_refl _) rfl hf64 hld
   ⟨fun W' hf => hraw.below (hb.trans (hf.below hb.size (by intro k hk h; omega))), fun W' hf => henc.below (hb.trans (hf.below hb.size (by intro k hk h; omega))), by omega⟩ hc hin hX hb.size)
 have HIN := Lib.hid (fun x hx => srch_in v fuel.toNat fuel.toNat l hin x hx)
 have HC := Lib.hid (And.intro hC (And.intro hc hin))
 obtain ⟨R, hR⟩ : ∃ R, srch v fuel.toNat fuel.toNat (l.map toZ) = R := ⟨_, rfl⟩
 obtain ⟨T, hT⟩ : ∃ T, wsolve (l.map toZ) v fuel (chkW (l.map toZ)) = T := ⟨_, rfl⟩
 rw [hT]
 unfold wsolve at hT
 rw [hR] at HS HIN hT
 have HT := Lib.hid hT
 clear hR hT hC hc hin hf64 hld hraw henc hap
 go_enter Tryz.func31, Tryz.ntmps31
 go_wp2_with fail
 have hb5 : Below w.heap.size w (((((w.alloc (.cells #[.int .i64 v] 3)).alloc (.cells #[.int .i64 fuel] 3)).alloc (.cells #[.slice none 0 0] 23)).alloc (.cells #[.func (.func 76) #[] #[.pointer (some ⟨w.heap.size + 1, 0, none⟩), .pointer (some ⟨w.heap.size, 0, none⟩), .pointer (some ⟨w.heap.size + 1 + 1, 0, none⟩), .pointer (some ⟨w.heap.size + 1 + 1 + 1 + 1, 0, none⟩)]] 94)).alloc (.cells #[.func (.func 74) #[] #[.pointer (some ⟨w.heap.size + 1 + 1 + 1, 0, none⟩)]] 95)) := (by repeat (first | exact Below.refl _ _ | with_reducible assumption | refine Below.alloc ?_ (by first | exact Nat.le_refl _ | (simp; done) | (simp; omega) | omega) _ | refine Below.setCell ?_ (by first | exact Nat.le_refl _ | (simp; done) | (simp; omega) | omega) _ | refine Below.drew ?_ | refine bdrewN ?_ _))
 have hX5 := WBx.mk (w := (((((w.alloc (.cells #[.int .i64 v] 3)).alloc (.cells #[.int .i64 fuel] 3)).alloc (.cells #[.slice none 0 0] 23)).alloc (.cells #[.func (.func 76) #[] #[.pointer (some ⟨w.heap.size + 1, 0, none⟩), .pointer (some ⟨w.heap.size, 0, none⟩), .pointer (some ⟨w.heap.size + 1 + 1, 0, none⟩), .pointer (some ⟨w.heap.size + 1 + 1 + 1 + 1, 0, none⟩)]] 94)).alloc (.cells #[.func (.func 74) #[] #[.pointer (some ⟨w.heap.size + 1 + 1 + 1, 0, none⟩)]] 95)))
  (fb := w.heap.size + 1) (vb := w.heap.size) (pb := w.heap.size + 2) (bb := w.heap.size + 4) (sb := w.heap.size + 3) (v := v) (fuel := fuel) (pv := .slice none 0 0)
  (blk_alloc (blk_alloc (blk_alloc (blk_newk2 (by simp)) _) _) _) (blk_alloc (blk_alloc (blk_alloc (blk_alloc (blk_new _ _) _) _) _) _) (blk_alloc (blk_alloc (blk_newk2 (by simp)) _) _) (blk_newk2 (by simp)) (blk_alloc (blk_newk2 (by simp)) _)
 have hcall := HS.out _ hb5 hX5
 generalize (((((w.alloc (.cells #[.int .i64 v] 3)).alloc (.cells #[.int .i64 fuel] 3)).alloc (.cells #[.slice none 0 0] 23)).alloc (.cells #[.func (.func 76) #[] #[.pointer (some ⟨w.heap.size + 1, 0, none⟩), .pointer (some ⟨w.heap.size, 0, none⟩), .pointer (some ⟨w.heap.size + 1 + 1, 0, none⟩), .pointer (some ⟨w.heap.size + 1 + 1 + 1 + 1, 0, none⟩)]] 94)).alloc (.cells #[.func (.func 74) #[] #[.pointer (some ⟨w.heap.size + 1 + 1 + 1, 0, none⟩)]] 95)) = w5 at hb5 hX5 hcall ⊢
 refine hcall.mono ?_
 rintro e w6 ⟨rfl, hF, fu, pv, hX, hfu, -, hI, hp⟩
 have HB6 := Lib.hid (show Below w.heap.size w w6 from hb5.trans (hF.below hb5.size (by intro k hk h; omega)))
 have HKP := Lib.hid hX.kp
 have HI := Lib.hid hI
 have HNP := Lib.hid (show pv.ownBlock ≠ some (w.heap.size + 1 + 1) from fun e => by
  obtain ⟨_, hb, hg⟩ := own_blk_ty hI e
  exact blk_ne hb hX.kp (by decide) rfl)
 have q0 : w6.cell? ⟨w.heap.size + 1 + 1, 0, none⟩ = some pv := blk_cell hX.kp 0
 have f0 : w6.frozen? ⟨w.heap.size + 1 + 1, 0, none⟩ = false := blk_frozen hX.kp 0
 clear hb5 hX5 hcall hF hX hfu hI
 by_cases h1 : R.1 = 1
 ·have e1 : (R.1 = 1) = True := eq_true h1
  have e1b : (R.1 != 1) = false := by rw [h1]; rfl
  obtain ⟨A2, c2, rfl, hc2, hC2⟩ := Kd.R_reads (RowI.toR HI.out)
  have HCK := Lib.hid (wcheck_any l R.2.2 A A2 c c2 w6 (Kd.C_below HC.out.1 HB6.out) HC.out.2.1 hC2 HC.out.2.2 HIN.out)
  have hT := HT.out
  rw [if_pos h1] at hT
  have H1 := Lib.hid h1
  clear hc2 hC2 hp h1
  go_wp2_with fail
  refine HCK.out.mono ?_
  rintro e w7 ⟨rfl, hb7⟩
  have HB7 := Lib.hid (HB6.out.trans (hb7.mono HB6.out.size))
  have HKP7 := Lib.hid (blk_below HKP.out hb7)
  have HI7 := ri_keep HI hb7
  have q0 : w7.cell? ⟨w.heap.size + 1 + 1, 0, none⟩ = some (.slice A2 R.2.2.length c2) := blk_cell HKP7.out 0
  have f0 : w7.frozen? ⟨w.heap.size + 1 + 1, 0, none⟩ = false := blk_frozen HKP7.out 0
  clear hb7
  cases hck : chkW (l.map toZ) R.2.2 with
  | true =>
   rw [if_pos hck] at hT
   subst hT
   clear hck
   have HE1 := Lib.hid e1
   go_wp2_with fail
   refine wp_region_L 3 (Cells _) (by kernel_rfl) ((show Cells [(⟨w.heap.size + 1 + 1, 0, none⟩, .slice A2 R.2.2.length c2)] w7 from ⟨q0, trivial⟩).keep (Below.refl _ _).drew) (fun hHeld => ?_)
   refine tl0 ?_ (by decide +kernel) (by rfl) (fun _ _ _ => id) ?_ (by assumption) ?_; rotate_left 1; (focus exact Z4y0); focus try simp only [Act.put, List.setIfInBounds_toArray, List.set_cons_zero, List.set_cons_succ]
   refine tl1 ?_ (by decide +kernel) (by rfl) (fun _ _ _ => id) ?_ (by assumption) ?_; rotate_left 1; (focus exact Z4y0); focus try simp only [Act.put, List.setIfInBounds_toArray, List.set_cons_zero, List.set_cons_succ]
   refine tl2 ?_ (by decide +kernel) (by rfl) (fun _ _ _ => id) ?_ (by assumption) ?_; rotate_left 1; (focus exact Z4y0); focus try simp only [Act.put, List.setIfInBounds_toArray, List.set_cons_zero, List.set_cons_succ]
   refine wpAnyL_ready (rs := [3]) (by kernel_rfl) (by simp) (al3 (fun K hK => ?_) (AllReadyL.nil))
   focus (go_simp)
   refine hK.out _ _ (fun h => absurd rfl h) (fun _ => ?_)
   focus (clear hK K; refine Zp4y ?_)
   refine wpAnyL_done (by kernel_rfl) ?_ _; rotate_left 1
   all_goals (
    go_wp2
    refine bodyPost_ret (v := .tuple #[.int .i64 R.1, .slice A2 R.2.2.length c2]) Z4y1 rfl ⟨⟨_, by rw [H1.out], own_far HI7.out HNP.out _⟩, Below.drew (Below.setCell HB7.out (by dsimp only; omega) _)⟩)
  | false =>
   rw [if_neg (by rw [hck]; decide)] at hT
   subst hT
   clear hck
   go_wp2
   refine bodyPost_ret (v := .tuple #[.int .i64 0, .slice none 0 0]) Z4y1 rfl ⟨⟨_, rfl, ⟨rfl, .inl ⟨rfl, rfl⟩⟩⟩, Below.setCell HB7.out (by dsimp only; omega) _⟩
 ·have e1 : (R.1 = 1) = False := eq_false h1
  have e1b : (R.1 != 1) = true := bne_iff_ne.2 h1
  have hT := HT.out
  rw [if_neg h1] at hT
  subst hT
  obtain rfl := hp h1
  clear hp h1
  go_wp2
  refine bodyPost_ret (v := .tuple #[.int .i64 R.1, .slice none 0 0]) Z4y1 rfl ⟨⟨_, rfl, ⟨rfl, .inl ⟨rfl, rfl⟩⟩⟩, Below.setCell HB6.out (by dsimp only; omega) _⟩
end Go.Proofs.YtbpjnkeilhfajaaGreat.Ln
end

section
/- whole's Solve and Check, in the form in which a printed text meets a callee. -/
namespace Go.Proofs.YtbpjnkeilhfajaaGreat.Given
open Go.RowKit Go.Proofs.YtbpjnkeilhfajaaGreat.Num Go.Proofs.YtbpjnkeilhfajaaGreat.Ln Go.Proofs.YtbpjnkeilhfajaaGreat.Lin Go.Proofs.YtbpjnkeilhfajaaGreatW.PrintWords
set_option linter.unusedVariables false
def whole_Solve.f (l0 : List S40) (a1 a2 : Int) : Option (Int × List Int) :=
 if ((∀ r, r ∈ l0 → RowIn r) ∧ In64 a2) ∧ l0.length + a2.toNat ≤ 100000 then some (wsolve (l0.map toZ) a1 a2 (chkW (l0.map toZ))) else none
theorem whole_Solve.calls (A0 : Option Addr) (c0 : Nat) (l0 : List S40) (a1 a2 : Int) (r0 : Int) (r1 : List Int) (w : World) (hr0 : Kd.C k40 w A0 l0.length l0) (hc0 : l0.length ≤ c0) (h : whole_Solve.f l0 a1 a2 = some (r0, r1)) :
  Calls Tryz.prog 31 #[.slice A0 l0.length c0, .int .i64 a1, .int .i64 a2] w fun e w' => ∃ v1_ : Value, e = .returned (.tuple #[.int .i64 r0, v1_]) ∧ Kd.R (Kd.int .i64) 2 w' w.heap.size (fun _ => True) v1_ r1 ∧ Below w.heap.size w w' := by
 unfold whole_Solve.f at h
 split at h
 ·rename_i hd
  injection h with h
  refine (wsolve_any l0 A0 c0 a1 a2 w hr0 hc0 hd.1.1 hd.1.2 hd.2).mono ?_
  rintro e w' ⟨⟨vp, rfl, hp⟩, hb⟩
  rw [h] at hp ⊢
  exact ⟨vp, rfl, Kd.R_mono (RowI.toR hp) (fun _ _ => trivial), hb⟩
 ·cases h
def whole_Check.f (l0 : List S40) (l1 : List Int) : Option Bool := if (∀ r, r ∈ l0 → RowIn r) ∧ ∀ x, x ∈ l1 → In64 x then some (chkW (l0.map toZ) l1) else none
theorem whole_Check.calls (A0 : Option Addr) (c0 : Nat) (l0 : List S40) (A1 : Option Addr) (c1 : Nat) (l1 : List Int) (r : Bool) (w : World) (hr0 : Kd.C k40 w A0 l0.length l0) (hc0 : l0.length ≤ c0) (hr1 : Kd.C (Kd.int .i64) w A1 l1.length l1) (hc1 : l1.length ≤ c1) (h : whole_Check.f l0 l1 = some r) :
  Calls Tryz.prog 28 #[.slice A0 l0.length c0, .slice A1 l1.length c1] w fun e w' => e = .returned (.bool r) ∧ Below w.heap.size w w' := by
 unfold whole_Check.f at h
 split at h
 ·rename_i hd
  rw [← Option.some.inj h]
  exact wcheck_any l0 l1 A0 A1 c0 c1 w hr0 hc0 hr1 hd.1 hd.2
 ·cases h
end Go.Proofs.YtbpjnkeilhfajaaGreat.Given
end
