/- ashlarlaw12.few, walked. -/
import Derived.Test.YtbpjnkeilhfajaaGreatTl
import Derived.Test.YtbpjnkeilhfajaaGreatRwS
namespace Go.Proofs
theorem Zp3m {p q : Prop} (hq : q) (h : p = q := by first | (simp only [Act.put, List.setIfInBounds_toArray, List.set_cons_zero, List.set_cons_succ]; done) | (simp only [Act.put, List.setIfInBounds_toArray, List.set_cons_zero, List.set_cons_succ]; rfl) | rfl) : p := Eq.mpr h hq
end Go.Proofs
namespace Go.Proofs.YtbpjnkeilhfajaaGreat.Rw
open Go.RowKit Go.Proofs.YtbpjnkeilhfajaaGreat.Given Go.Proofs.YtbpjnkeilhfajaaGreatW.PrintWords Go.Proofs.YtbpjnkeilhfajaaGreatW.PrintLast Go.Proofs.YtbpjnkeilhfajaaGreat.Num Go.Proofs.YtbpjnkeilhfajaaGreat.Ln Go.Proofs.YtbpjnkeilhfajaaGreat.Lin
set_option linter.unusedVariables false
set_option linter.unusedSimpArgs false
def cutR (r : S40) : S40 := ⟨r.f0.take 70, r.f1⟩
def fewL (l : List S40) : List S40 := (l.take 20).map cutR
theorem rawI {w : World} {A : Option Addr} {l : List Int} (h : (Kd.int .i64).C w A l.length l) : Raw w A l.length 1 (intv l) := by
 refine ⟨by simp [intv], fun e => ?_, fun ad e j u hj => ?_, fun u hu => ?_⟩
 ·rcases Nat.eq_zero_or_pos l.length with h0 | h0
  ·exact h0
  ·obtain ⟨ad, e1, _⟩ := i64_at h h0
   rw [e] at e1; cases e1
 ·have hl : j < l.length := by have := (List.getElem?_eq_some_iff.1 hj).1; simpa [intv] using this
  obtain ⟨ad', e1, q⟩ := i64_at h hl
  rw [e] at e1
  obtain rfl := Option.some.inj e1
  rw [q]
  unfold intv at hj
  rw [List.getElem?_map, List.getElem?_eq_getElem hl] at hj
  exact hj
 ·obtain ⟨x, _, rfl⟩ := List.mem_map.1 hu
  rfl
theorem stepI {ops : Array Oper} {o : Oper} {a : Act} {w : World} {K : Act → World → Prop} {Q : Exit → Act → World → Prop} {E : Prop} (hgd : o.guard = none) (s x : Operand)
  (ho : o.op = .call { callee := .builtin .append, args := #[s, x], argTypes := #[23 , 23 ] })
  (base : Nat) (v : Value) (l : List Int) (hs : a.eval s = v) (hown : RowI w base v l) (A : Option Addr) (n c : Nat) (m : List Int) (hx : a.eval x = .slice A n c) (hn : n = m.length) (hC : (Kd.int .i64).C w A m.length m) (hb : l.length + m.length < 1000000) (hbase : base ≤ w.heap.size)
  (h : ∀ v' w', Hid (RowI w' base v' (l ++ m)) → Hid (Below base w w') → w.grownBy w' v.ownBlock → K (a.put o.dst v') w') :
  if Region.wanted o (yielded ops a.tmps) = true then Oper.wp Tryz.prog o a w K Q else E := by
 subst hn
 refine step_appR hgd s x _ ho base 2 (.int .i64 0) 1 8 Tryz.underlying23 infoI3 rfl (by decide) v l.length (intv l) hs hown A m.length c (intv m) hx (rawI hC) (by unfold maxLen; omega) (by omega) hbase (fun v' w' h1 h2 => h v' w' (Lib.hid ?_) (Lib.hid ?_) h2)
 ·unfold RowI
  rw [List.length_append, show intv (l ++ m) = intv l ++ intv m by simp [intv]]
  exact h1.out
 ·exact Below.grown ((Below.refl _ _).mono hbase) h2 hbase (fun k hk => by obtain ⟨_, _, hg⟩ := own_blk_ty hown hk; exact hg)
theorem wpList_appIR {W : World} {ops : Array Oper} {rest : List Oper} {o : Oper} {a : Act} {Q : Exit → Act → World → Prop} (hgd : o.guard = none) (s x : Operand)
  (ho : o.op = .call { callee := .builtin .append, args := #[s, x], argTypes := #[23 , 23 ] })
  (base : Nat) (v : Value) (l : List Int) (hs : a.eval s = v) (hown : RowI W base v l) (A : Option Addr) (n c : Nat) (m : List Int) (hx : a.eval x = .slice A n c) (hn : n = m.length) (hC : (Kd.int .i64).C W A m.length m) (hb : l.length + m.length < 1000000) (hbase : base ≤ W.heap.size)
  (h : ∀ v' w', Hid (RowI w' base v' (l ++ m)) → Hid (Below base W w') → wpList Tryz.prog ops Q rest (a.put o.dst v') w') : wpList Tryz.prog ops Q (o :: rest) a W := by
 refine wpList_plain hgd fun K hK => ?_
 have := stepI (ops := ops) (E := False) (Q := Q) (K := K) hgd s x ho base v l hs hown A n c m hx hn hC hb hbase (fun v' w' h1 h2 _ => hK _ _ (h v' w' h1 h2))
 rwa [if_pos (show Region.wanted o (yielded ops a.tmps) = true by simp [Region.wanted, hgd])] at this
theorem rowI_empty {w : World} {base g : Nat} (h : Hid (w.heap[g]? = some (.cells #[] 2 (0, 0)) ∧ g < w.heap.size)) (hg : base ≤ g) : RowI w base (.slice (some ⟨g, 0, none⟩) 0 0) [] :=
 ⟨by simp [intv], .inr ⟨g, 0, #[], rfl, hg, h.out.1, Nat.le_refl _, Nat.zero_le _, by simp, by simp [intv]⟩⟩
theorem rowI_blk {w : World} {base : Nat} {v : Value} {l : List Int} (h : RowI w base v l) {k : Nat} (hk : v.ownBlock = some k) : base ≤ k := by obtain ⟨_, _, hg⟩ := own_blk_ty h hk; exact hg
theorem few_in {l : List S40} (h : ∀ r, r ∈ l → RowIn r) : (fewL l).length ≤ 20 ∧ ∀ r, r ∈ fewL l → RowIn r ∧ r.f0.length ≤ 70 := by
 refine ⟨by unfold fewL; rw [List.length_map, List.length_take]; omega, fun r hr => ?_⟩
 obtain ⟨s, hs, rfl⟩ := List.mem_map.1 hr
 have := h s (List.mem_of_mem_take hs)
 exact ⟨⟨this.1, fun x hx => this.2 x (List.mem_of_mem_take hx)⟩, by show (s.f0.take 70).length ≤ 70; rw [List.length_take]; omega⟩
theorem take_min {α : Type} (l : List α) (k : Nat) : l.take (min l.length k) = l.take k := by
 rcases Nat.le_total l.length k with h3 | h3
 ·rw [Nat.min_eq_left h3, List.take_of_length_le (Nat.le_refl _), List.take_of_length_le h3]
 ·rw [Nat.min_eq_right h3]
set_option maxHeartbeats 8000000 in
set_option maxRecDepth 100000 in
theorem few12_any (l : List S40) (A : Option Addr) (c : Nat) (w : World) (hC : Kd.C k40 w A l.length l) :
  Calls Tryz.prog 27 #[.slice A l.length c] w fun e w' => ∃ v raws, e = .returned v ∧ RowsO w' w.heap.size v (fewL l) raws ∧ Below w.heap.size w w' := by
 have HC := Lib.hid hC
 clear hC
 go_enter Tryz.func27, Tryz.ntmps27
 go_wp2
 go_loopw [3, 4] (fun v5 v6 wr => ∃ (i : Nat) (raws : List Value), i ≤ l.length ∧ i ≤ 20 ∧ v6 = .int .i64 i ∧ Hid (RowsO wr w.heap.size v5 ((l.take i).map cutR) raws) ∧ Hid (Below w.heap.size w wr)) (fun _ v6 _ => l.length - (intOf v6).toNat)
 case atStart => exact ⟨0, [], Nat.zero_le _, by omega, rfl, Lib.hid (by rw [List.take_zero]; exact RowsO.nil), Lib.hid (Below.refl _ _)⟩
 case round =>
  obtain ⟨i, raws, hi, hi3, rfl, HO, HB⟩ := hrel
  by_cases hb : i < l.length ∧ i < 20
  ·have e1 : (i < l.length) = True := eq_true hb.1
   have e2 : (i < 20) = True := eq_true hb.2
   have e2' : ((i : Int) < 20) = True := eq_true (by omega)
   obtain ⟨ad, A0, c0, rfl, z0, z1, hc0, hrow⟩ := row_at HC.out hb.1
   have HT := Lib.hid (show (l.take (i + 1)).map cutR = (l.take i).map cutR ++ [cutR l[i]] by rw [List.take_add_one, List.getElem?_eq_getElem hb.1, List.map_append]; rfl)
   obtain ⟨r, hr⟩ : ∃ r, l[i] = r := ⟨_, rfl⟩
   rw [hr] at z0 z1 hrow HT hc0
   have q0 := kcell HB.out z0
   have q1 := kcell HB.out z1
   obtain ⟨n, hn⟩ : ∃ n, r.f0.length = n := ⟨_, rfl⟩
   obtain ⟨t, ht⟩ : ∃ t, r.f0.take 70 = t := ⟨_, rfl⟩
   have htl : t.length = min n 70 := by rw [← ht, List.length_take, hn]; omega
   have hCt : (Kd.int .i64).C w A0 t.length t := by
    have h := Kd.C_take hrow (show min n 70 ≤ r.f0.length by omega)
    have e : r.f0.take (min n 70) = t := by
     rw [← ht]
     rcases Nat.le_total n 70 with h3 | h3
     ·rw [Nat.min_eq_left h3, List.take_of_length_le (by omega), List.take_of_length_le (by omega)]
     ·rw [Nat.min_eq_right h3]
    rwa [e] at h
   have HCT := Lib.hid (Kd.C_below hCt HB.out)
   have HTL := Lib.hid (show t.length ≤ 70 by omega)
   rw [hn] at q0 hc0
   have em : min (n : Int) 70 = ((t.length : Nat) : Int) := by rw [htl]; omega
   have b1 : (t.length ≤ c0) = True := eq_true (by omega)
   have b2 : ((t.length : Int) ≤ (c0 : Int)) = True := eq_true (by omega)
   have b3 : (t.length ≤ n) = True := eq_true (by omega)
   have HRR := Lib.hid (show cutR r = ⟨t, r.f1⟩ by rw [← ht]; rfl)
   have HII := Lib.hid (And.intro hi hb)
   have EWi := Lib.hid (wrapj (show i + 1 < 9223372036854775808 by omega))
   have hL : ((l.take i).map cutR).length + 1 < 1000000 := by rw [List.length_map, List.length_take]; omega
   have HL := Lib.hid hL
   have HCe := Lib.hid (show Cells [(ad.add (i * 2), .slice A0 n c0), (⟨(ad.add (i * 2)).block, (ad.add (i * 2)).off + 1, none⟩, .int .i64 r.f1)] w from ⟨by rw [← hn]; exact z0, z1, trivial⟩)
   have hwb : w.heap.size ≤ wr.heap.size := HB.out.size
   have HD0 := Lib.hid (show Below wr.heap.size wr wr.drew from (Below.refl _ _).drew)
   clear hi hi3 hb hr hc0 hrow hn ht htl hCt hL q0 q1 z0 z1
   go_wp2_with fail
   refine wp_region_L 24 (Hd _ wr w.heap.size) (by kernel_rfl) (⟨hwb, HCe.out.keep HB.out.drew, HD0.out.mono hwb⟩) (fun hHeld => ?_)
   refine tl0.go ?_
   refine tl2.go ?_
   refine tl3.go ?_
   refine tl4.go ?_
   refine tl5.go ?_
   refine tl6.go ?_
   refine tl7.go ?_
   refine tl8.go ?_
   refine tl9.go ?_
   refine tl10.go ?_
   refine tl11.go ?_
   refine tl12.go ?_
   refine tl13.go ?_
   refine tl14.go ?_
   refine tl16.go ?_
   refine tl17.go ?_
   refine tl18.go ?_
   refine tl19.go ?_
   refine tl20.go ?_
   refine wpAnyL_ready (rs := [1]) (by kernel_rfl) (by simp) (al1 (fun K hK => ?_) (AllReadyL.nil))
   focus (refine sl_newh (.cells #[] 2) 0 (by kernel_rfl) (by intro w_; go_simp; done) (fun g_ w2 hg_ hb2 HP => ?_); have HG := Lib.hid (Nat.le_trans HD0.out.size (Nat.le_of_eq hg_.out.symm)); have HD1 := Lib.hid (HD0.out.trans hb2); have HI0 := Lib.hid (rowI_empty HP HG.out))
   refine hK.out _ _ (fun _ => ?_) (fun hHeld => ?_)
   ·exact hHeld.keep hb2
   focus (have hHeld := hHeld (by decide); clear hK K; refine Zp3m ?_)
   refine wpAnyL_ready (rs := [15]) (by kernel_rfl) (by simp) (al15 (fun K hK => ?_) (AllReadyL.nil))
   focus (refine stepI rfl (.tmp 16) (.tmp 29) rfl wr.heap.size _ [] rfl HI0.out A0 t.length c0 t rfl rfl (Kd.C_below HCT.out HD1.out) (by have := HTL.out; simp; omega) HD1.out.size ?_; intro v3 w3 HI3 HB3 hg3; have HD2 := Lib.hid (HD1.out.trans HB3.out); obtain ⟨A3, n3, c3, rfl⟩ : ∃ A n c, v3 = .slice A n c := (by obtain ⟨A, c, e, _⟩ := rowI_read HI3.out; exact ⟨A, _, c, e⟩))
   refine hK.out _ _ (fun _ => ?_) (fun hHeld => ?_)
   ·exact ⟨hwb, HCe.out.keep (HB.out.trans (HD2.out.mono hwb)), HD2.out.mono hwb⟩
   focus (have hHeld := hHeld (by decide); clear hK K; refine Zp3m ?_)
   refine tl21.go ?_
   refine wpAnyL_ready (rs := [22]) (by kernel_rfl) (by simp) (al22 (fun K hK => ?_) (AllReadyL.nil))
   focus (refine sl_newh (.cells #[.slice A3 n3 c3, .int .i64 r.f1] 40) 1 (by kernel_rfl) (by intro w_; go_simp; done) (fun g2_ w2 hg2_ hb2 HP2 => ?_); have HI3 := ri_keep HI3 hb2; have HD3 := Lib.hid (HD2.out.trans (hb2.mono HD2.out.size)))
   refine hK.out _ _ (fun _ => ?_) (fun hHeld => ?_)
   ·exact hHeld.keep hb2
   focus (have hHeld := hHeld (by decide); clear hK K; refine Zp3m ?_)
   refine wpAnyL_ready (rs := [23]) (by kernel_rfl) (by simp) (al23 (fun K hK => ?_) (AllReadyL.nil))
   focus (refine stepRows rfl (.tmp 15) (.tmp 37) rfl w.heap.size _ _ [⟨t, r.f1⟩] raws [.slice A3 n3 c3, .int .i64 r.f1] (some ⟨g2_, 0, none⟩) 1 1 rfl rfl (HO.out.below HD3.out) rfl (raw_lit HP2 rfl rfl) (fun W hW => encOne HI3.out hW) HL.out (Nat.le_trans hwb HD3.out.size) ?_; intro v5 w5 HO5 HB5 HG5)
   refine hK.out _ _ (fun _ => ?_) (fun hHeld => ?_)
   ·exact ⟨hwb, HCe.out.keep (HB.out.trans ((HD3.out.mono hwb).trans HB5.out)), (HD3.out.mono hwb).trans HB5.out⟩
   focus (have hHeld := hHeld (by decide); clear hK K; refine Zp3m ?_)
   refine wpAnyL_ready (rs := [24]) (by kernel_rfl) (by simp) (al24 (fun K hK => ?_) (AllReadyL.nil))
   focus go_simp
   refine hK.out _ _ (fun h => absurd rfl h) (fun _ => ?_)
   focus (clear hK K; refine Zp3m ?_)
   refine wpAnyL_done (by kernel_rfl) ?_ _; rotate_left 1
   have HB9 := Lib.hid (HB.out.trans ((HD3.out.mono hwb).trans HB5.out))
   go_wp2
   refine ⟨⟨i + 1, _, HII.out.2.1, HII.out.2.2, congrArg (Value.int .i64) EWi.out, Lib.hid (by rw [HT.out, HRR.out]; exact HO5.out), HB9⟩, ?_⟩
   rw [EWi.out]
   simp only [intOf, Int.toNat_natCast]
   exact meas_lt HII.out.2.1
  ·have hs : fewL l = (l.take i).map cutR := by
    unfold fewL
    rcases Nat.lt_or_ge i l.length with h1 | h1
    ·have : i = 20 := by omega
     rw [this]
    ·rw [List.take_of_length_le h1, List.take_of_length_le (by omega)]
   have HS := Lib.hid hs
   by_cases h1 : i < l.length
   ·have e1 : (i < l.length) = True := eq_true h1
    have e2 : (i < 20) = False := eq_false (by omega)
    have e2' : ((i : Int) < 20) = False := eq_false (by omega)
    clear hs hb h1 hi hi3
    go_wp2
    go_ret
    exact ⟨_, _, rfl, by rw [HS.out]; exact HO.out, HB.out⟩
   ·have e1 : (i < l.length) = False := eq_false h1
    clear hs hb h1 hi hi3
    go_wp2
    go_ret
    exact ⟨_, _, rfl, by rw [HS.out]; exact HO.out, HB.out⟩
end Go.Proofs.YtbpjnkeilhfajaaGreat.Rw
