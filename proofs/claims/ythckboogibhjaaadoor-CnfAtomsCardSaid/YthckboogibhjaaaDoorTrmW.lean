/- cnf's literal. -/
import Derived.Test.YthckboogibhjaaaDoorTrmV
namespace Go.Proofs.YthckboogibhjaaaDoor.Trm
set_option linter.unusedVariables false
set_option linter.unusedSimpArgs false
open Go.RowKit Go.Proofs.YthckboogibhjaaaDoorW.PrintWords Go.Proofs.YthckboogibhjaaaDoorW.PrintMore

theorem one64 {x : Int} (h1 : -1000000 ≤ x) (h2 : x ≤ 1000000) : wrap64 (x + 1) = x + 1 := by unfold wrap64; omega

set_option maxHeartbeats 2000000 in
/-- A clause of one number just laid. -/
theorem add1_ls (mb : Nat) (w0 wL : World) (oka : Nat → Prop) (ho : ∀ k, oka k → k < wL.heap.size ∧ k ≠ mb) (h0 : w0.heap.size ≤ mb) (va vc : Value) (vars : Int) (cls : List (List Int)) (y : Int) (g : Nat) (W : World) (hg : W.heap.size = g)
    (hL : Ls mb w0 wL oka va vars cls vc W) (hlen : cls.length ≤ 1000000) :
    Calls Tryd.prog 27 #[.pointer (some ⟨mb, 0, none⟩), .slice (some ⟨g, 0, none⟩) 1 1] (W.alloc (.cells #[.int .i64 y] 3)) fun e w' => e = .returned (.tuple #[]) ∧ ∃ v1, Ls mb w0 wL oka va vars (cls ++ [[y]]) v1 w' ∧ Turn mb vc v1 W w' := by
  subst hg
  have zm := blk_lt hL.1
  refine (add_ls mb w0 wL oka ho h0 va vc vars cls [y] (some ⟨W.heap.size, 0, none⟩) 1 (fun k => k = W.heap.size) (W.alloc (.cells #[.int .i64 y] 3)) (Ls_below hL (below_alloc (Below.refl _ _) _) (fun k hk => (ho k hk).1)) (fk_new (xs := [y]) (by simp) (by simp) (blk_new W _) rfl) ?_ hlen).mono ?_
  · rintro k rfl
    refine ⟨⟨by omega, fun h => ?_⟩, fun he => ?_⟩
    · have := (ho _ h).1; have := hL.2.2.2.1; omega
    · have := Kd.N_lt hL.2.1 _ he.symm; omega
  · rintro e w' ⟨rfl, v1, q1, q2⟩
    exact ⟨rfl, v1, q1, ((Turn.refl mb vc W).alloc _).trans q2⟩
set_option maxHeartbeats 2000000 in
/-- A clause made since W0. -/
theorem addrow_ls (mb : Nat) (w0 wL : World) (oka : Nat → Prop) (ho : ∀ k, oka k → k < wL.heap.size ∧ k ≠ mb) (h0 : w0.heap.size ≤ mb) (va vc : Value) (vars : Int) (cls : List (List Int)) (c : List Int) (Al : Option Addr) (n cl : Nat) (hn : c.length = n) (W0 W : World)
    (hL : Ls mb w0 wL oka va vars cls vc W0) (hb : Below W0.heap.size W0 W) (hR : Lr W0 W (.slice Al n cl) c) (hlen : cls.length ≤ 1000000) :
    Calls Tryd.prog 27 #[.pointer (some ⟨mb, 0, none⟩), .slice Al n cl] W fun e w' => e = .returned (.tuple #[]) ∧ ∃ v1, Ls mb w0 wL oka va vars (cls ++ [c]) v1 w' ∧ Turn mb vc v1 W0 w' := by
  subst hn
  have zm := blk_lt hL.1
  have hN : Kd.N (Kd.int .i64) 3 W W0.heap.size (fun k => (k ≠ mb ∧ ¬ oka k) ∧ some k ≠ vc.ownBlock) (.slice Al c.length cl) c := by
    refine N_int_any hR (fun k hk => ?_)
    have hbase := Kd.N_base hR k hk
    refine ⟨⟨by omega, fun h => ?_⟩, fun he => ?_⟩
    · have := (ho _ h).1; have := hL.2.2.2.1; omega
    · have := Kd.N_lt hL.2.1 _ he.symm; omega
  refine (add_ls mb w0 wL oka ho h0 va vc vars cls c Al cl _ W (Ls_below hL hb (fun k hk => (ho k hk).1)) (Kd.FK_slice_mk (Kd.N_reads' hR).2.1 (Kd.N_F hN)) (fun k hk => hk) hlen).mono ?_
  rintro e w' ⟨rfl, v1, q1, q2⟩
  exact ⟨rfl, v1, q1, ((Turn.refl mb vc W0).below hb).trans q2⟩
theorem hd_cell {wb W : World} {v : Value} {y : Int} {ys : List Int} (h : Lr wb W v (y :: ys)) : ∃ g c, v = .slice (some ⟨g, 0, none⟩) (ys.length + 1) c ∧ W.cell? ⟨g, 0, none⟩ = some (.int .i64 y) ∧ W.frozen? ⟨g, 0, none⟩ = false := by
  obtain ⟨g, c, rfl⟩ := n_form (n := ys.length + 1) h (by simp) (Nat.succ_pos _)
  obtain ⟨cs, hcl, hK, hcc, hfr⟩ := Kd.N_elem h 0 (0 : Int) (by decide) (by omega)
  have hk : cs = [.int .i64 y] := Kd.FK_now hK
  have h1 := hcc 0 (.int .i64 y) (by rw [hk]; rfl)
  have h2 := hfr 0
  exact ⟨g, c, rfl, h1, h2⟩

theorem addC_16 (h : Int) (l : List Int) (c : List (List Int)) : addC 16 h l c = c ++ [[h]] := by unfold addC; rw [if_pos rfl]
theorem addC_17 (h : Int) (l : List Int) (c : List (List Int)) : addC 17 h l c = c ++ [[-h]] := by unfold addC; rw [if_neg (by decide), if_pos rfl]
theorem addC_19 (h : Int) (l : List Int) (c : List (List Int)) : addC 19 h l c = (c ++ l.map fun n => [-h, n]) ++ [h :: l.map fun n => -n] := by unfold addC; rw [if_neg (by decide), if_neg (by decide), if_pos rfl]; rfl
theorem addC_20 (h : Int) (l : List Int) (c : List (List Int)) : addC 20 h l c = (c ++ (l.map fun n => -n).map fun n => [h, n]) ++ [(-h) :: l] := by unfold addC; rw [if_neg (by decide), if_neg (by decide), if_neg (by decide), if_neg (by decide)]; rfl
theorem addC_21 (h : Int) (l : List Int) (c : List (List Int)) : addC 21 h l c = addC 20 h (l.set 0 (-(l.headD 0))) c := by rw [addC_20]; unfold addC; rw [if_neg (by decide), if_neg (by decide), if_neg (by decide), if_pos rfl]; rfl

theorem tail_F {wb W : World} {g c n : Nat} {xs : List Int} {a0 : Int} (h : Lr wb W (.slice (some ⟨g, 0, none⟩) (n + 1) c) (a0 :: xs)) {okc : Nat → Prop} (hk : okc g) :
    n = xs.length ∧ n + 1 ≤ c ∧ ∀ A', (c = 1 → A' = some ⟨g, 0, none⟩) → (¬ c = 1 → A' = some ⟨g, 1, none⟩) → Kd.F (Kd.int .i64) W okc A' n xs := by
  have hr := Kd.N_reads' h
  have hn : n = xs.length := by have := hr.1; rw [List.length_cons] at this; omega
  subst hn
  refine ⟨rfl, hr.2.1, fun A' h1 h2 => ?_⟩
  have hF : Kd.F (Kd.int .i64) W okc (some ⟨g, 0, none⟩) (a0 :: xs).length (a0 :: xs) := Kd.N_F (N_int_any (ok' := okc) h (fun k hk' => (show g = k by simpa [Value.ownBlock] using hk') ▸ hk))
  have hC := Kd.F_cut (m := 1) (c := c) hF (by rw [List.length_cons]; omega) hr.2.1
  by_cases hc : c = 1
  · rw [if_pos hc] at hC
    rw [h1 hc]; exact hC
  · rw [if_neg hc] at hC
    rw [h2 hc]; exact hC
theorem pairs_ls' (mb : Nat) (w0 wL : World) (oka : Nat → Prop) (ho : ∀ k, oka k → k < wL.heap.size ∧ k ≠ mb) (h0 : w0.heap.size ≤ mb) (va vc : Value) (vars h : Int) (cls : List (List Int)) (l : List Int) (n : Nat) (hn : n = l.length) (Al : Option Addr) (cl : Nat) (w : World)
    (hL : Ls mb w0 wL oka va vars cls vc w) (hF : Kd.F (Kd.int .i64) w (fun k => k ≠ mb ∧ some k ≠ vc.ownBlock) Al n l) (hcl : n ≤ cl) (hlen : cls.length + n ≤ 1000000) :
    Calls Tryd.prog 43 #[.pointer (some ⟨mb, 0, none⟩), .int .i64 h, .slice Al n cl] w fun e w' => e = .returned (.tuple #[]) ∧ ∃ v1, Ls mb w0 wL oka va vars (cls ++ l.map fun n => [h, n]) v1 w' ∧ Turn mb vc v1 w w' := by
  subst hn
  exact pairs_ls mb w0 wL oka ho h0 va vc vars h cls l Al cl w hL hF hcl hlen

theorem Lx_vars {mb : Nat} {w0 wL W : World} {oka : Nat → Prop} {va vc v : Value} {vars : Int} {cls : List (List Int)} (h : Lx mb w0 wL oka va vars cls vc v W) (hm : ∀ k, oka k → k ≠ mb) (h0 : w0.heap.size ≤ mb) (n : Int) : Lx mb w0 wL oka va n cls vc v (W.setCell ⟨mb, 1, none⟩ (.int .i64 n)) :=
  ⟨Ls_vars h.1 hm h0 n, Kd.N_far h.2 (fun k hk => hk.1.1) _⟩

set_option maxHeartbeats 16000000 in
set_option maxRecDepth 100000 in
theorem lit_any (mb : Nat) (w0 : World) (h0 : w0.heap.size ≤ mb) (ats : List S24) (hats : ats.length ≤ 1000000) (Aa : Option Addr) (ca : Nat) (hca : ats.length ≤ ca) :
    ∀ (n : Nat) (t : S24), tsize t ≤ n → okT t → ∀ (wL : World) (oka : Nat → Prop), (∀ k, oka k → k < wL.heap.size ∧ k ≠ mb) → Kd.F k24 wL oka Aa ats.length ats →
      ∀ (A : Option Addr) (c : Nat) (vars : Int) (cls : List (List Int)) (vc : Value) (w : World), Ls mb w0 wL oka (.slice Aa ats.length ca) vars cls vc w → Kd.C k24 w0 A t.f3.length t.f3 → t.f3.length ≤ c → (ats.length : Int) ≤ vars → vars + tsize t ≤ 1000000 → cls.length + 2 * tsize t ≤ 1000000 →
      Calls Tryd.prog 28 #[.pointer (some ⟨mb, 0, none⟩), .agg #[.int .i64 t.f0, .string t.f1, .int .i64 t.f2, .slice A t.f3.length c]] w fun e w' => e = .returned (.int .i64 (litT ats t vars cls).1) ∧ ∃ v1, Ls mb w0 wL oka (.slice Aa ats.length ca) (litT ats t vars cls).2.1 (litT ats t vars cls).2.2 v1 w' ∧ Turn mb vc v1 w w' := by
  intro n
  induction n with
  | zero => intro t ht; rw [tsize_mk] at ht; omega
  | succ n ih =>
    intro t ht hok wL oka ho hFA A c vars cls vc w hL hC hc hb1 hb2 hb3
    let O : Obj := .cells #[.int .i64 t.f0, .string t.f1, .int .i64 t.f2, .slice A t.f3.length c] 24
    have hFAw := Kd.F_step hFA (fun k h1 h2 => hL.2.2.2.2 k h1 h2)
    have hCw := Kd.C_below hC hL.2.2.1
    have zm := blk_lt hL.1
    have HL := Lib.hid hL
    have HC := Lib.hid hC
    have HFA := Lib.hid hFA
    have HE := Lib.hid (litT_mk ats t vars cls)
    by_cases hj : joinsB t.f0 = true
    · have hle := litL_le ats t.f3 vars cls hb1
      rw [tsize_mk] at ht hb2 hb3
      rw [okT_mk] at hok
      have HOK := Lib.hid (hok hj)
      have HLE := Lib.hid hle
      have HIH := Lib.hid ih
      have HO := Lib.hid ho
      have HX1 := Lib.hid (Lx_alloc (Lx_nil hL) ho O)
      have HT1 := Lib.hid (((Turn.refl mb vc w).alloc O))
      have kt : (w.alloc O).heap[w.heap.size]? = some O := blk_new w O
      have KT := Lib.hid kt
      clear hL hC hFA ih hle hok hFAw hCw ho kt
      go_enter Tryd.func28, Tryd.ntmps28
      go_wp2_with (go_at_call 25; refine (joins_any _ _).mono ?_; rw [hj]; rintro e w2 ⟨rfl, rfl⟩)
      go_loopw [5, 20] (fun vl v wr => ∃ (j : Nat) (ls : List Int) (vars2 : Int) (cls2 : List (List Int)) (v2 : Value), j ≤ t.f3.length ∧ v = .int .i64 j ∧ ls.length = j ∧ Lr w wr vl ls ∧ Lx mb w0 wL oka (.slice Aa ats.length ca) vars2 cls2 v2 vl wr ∧ Turn mb vc v2 w wr ∧ wr.heap[w.heap.size]? = some (.cells #[.int .i64 t.f0, .string t.f1, .int .i64 t.f2, .slice A t.f3.length c] 24 (0, 0)) ∧ litL ats t.f3 vars cls = (ls ++ (litL ats (t.f3.drop j) vars2 cls2).1, (litL ats (t.f3.drop j) vars2 cls2).2) ∧ (ats.length : Int) ≤ vars2 ∧ vars2 + lsize (t.f3.drop j) ≤ 1000000 ∧ cls2.length + 2 * lsize (t.f3.drop j) ≤ 1000000) (fun vl v _ => t.f3.length - (intOf v).toNat)
      case atStart => exact ⟨0, [], vars, cls, vc, Nat.zero_le _, rfl, rfl, Lr_nil _ _, HX1.out, HT1.out, KT.out, by rw [List.drop_zero]; rfl, hb1, by rw [List.drop_zero]; omega, by rw [List.drop_zero]; omega⟩
      case round =>
        obtain ⟨j, ls, vars2, cls2, v2, hj2, rfl, hls, hLr, hLx, hT, hk, hE, hv1, hv2, hv3⟩ := hrel
        by_cases hjl : j < t.f3.length
        · have hmax := Kd.C_max HC.out
          obtain ⟨ad, A', c', e, x0, x1, x2, x3, l', C'⟩ := el_T HC.out hjl
          have hbw : Below w0.heap.size w0 wr := hLx.1.2.2.1
          have hxok := okL_get HOK.out.2 hjl
          have hmem : t.f3[j] ∈ t.f3 := List.getElem_mem hjl
          have hxn : tsize t.f3[j] ≤ n := by have hts := lsize_mem hmem; omega
          rw [List.drop_eq_getElem_cons hjl, lsize] at hv2 hv3
          rw [List.drop_eq_getElem_cons hjl, litL] at hE
          generalize t.f3[j] = x at *
          replace x0 := (hbw.cell (World.block_lt_of_cell? w0 _ x0)).trans x0
          replace x1 := (hbw.cell (World.block_lt_of_cell? w0 _ x1)).trans x1
          replace x2 := (hbw.cell (World.block_lt_of_cell? w0 _ x2)).trans x2
          replace x3 := (hbw.cell (World.block_lt_of_cell? w0 _ x3)).trans x3
          subst e
          have hxl := litT_le ats x vars2 cls2 hv1
          have hX1 := Lx_alloc hLx HO.out (.cells #[.int .i64 x.f0, .string x.f1, .int .i64 x.f2, .slice A' x.f3.length c'] 24)
          have hR1 := Lr_below hLr (below_alloc (Below.refl _ _) (.cells #[.int .i64 x.f0, .string x.f1, .int .i64 x.f2, .slice A' x.f3.length c'] 24))
          have hT1 := hT.alloc (.cells #[.int .i64 x.f0, .string x.f1, .int .i64 x.f2, .slice A' x.f3.length c'] 24)
          have hk1 := blk_alloc hk (.cells #[.int .i64 x.f0, .string x.f1, .int .i64 x.f2, .slice A' x.f3.length c'] 24)
          have hwr := hT.2.2
          clear hLx hLr hT hk
          have ho' : ∀ k, (oka k ∨ some k = u5.ownBlock) → k < (wr.alloc (.cells #[.int .i64 x.f0, .string x.f1, .int .i64 x.f2, .slice A' x.f3.length c'] 24)).heap.size ∧ k ≠ mb := by
            intro k hk
            rcases hk with hk | hk
            · exact ⟨Nat.lt_of_lt_of_le (HO.out k hk).1 hX1.1.2.2.2.1, (HO.out k hk).2⟩
            · exact ⟨Kd.N_lt hR1 k hk.symm, (Lr_mb hR1 hX1.1 k hk.symm).1⟩
          have hFA' : Kd.F k24 (wr.alloc (.cells #[.int .i64 x.f0, .string x.f1, .int .i64 x.f2, .slice A' x.f3.length c'] 24)) (fun k => oka k ∨ some k = u5.ownBlock) Aa ats.length ats := Kd.F_mono (Kd.F_step HFA.out (fun k h1 h2 => hX1.1.2.2.2.2 k h1 h2)) (fun k hk => .inl hk)
          have REC := Lib.hid (HIH.out x hxn hxok _ _ ho' hFA' A' c' vars2 cls2 v2 _ (Lx_down hX1) C' l' hv1 (by omega) (by omega))
          have EW := Lib.hid (wrapj (show j + 1 < 9223372036854775808 by omega))
          have hn1 : (ats.length : Int) ≤ (litT ats x vars2 cls2).2.1 := by omega
          have hn2 : (litT ats x vars2 cls2).2.1 + lsize (t.f3.drop (j + 1)) ≤ 1000000 := by omega
          have hn3 : (litT ats x vars2 cls2).2.2.length + 2 * lsize (t.f3.drop (j + 1)) ≤ 1000000 := by omega
          have hj6 : (ls.length + 1) * 8 ≤ 140737488355328 := by have := len_lsize (t.f3); omega
          have HX1' := Lib.hid hX1
          have HR1' := Lib.hid hR1
          have HT1' := Lib.hid hT1
          have HK1' := Lib.hid hk1
          have HE1 := Lib.hid hE
          have hls' : (ls ++ [(litT ats x vars2 cls2).1]).length = j + 1 := by rw [List.length_append, hls]; rfl
          have HLS := Lib.hid hls'
          generalize hy : (litT ats x vars2 cls2).1 = y at *
          generalize hva : (litT ats x vars2 cls2).2.1 = va' at *
          generalize hcl : (litT ats x vars2 cls2).2.2 = cl' at *
          clear hX1 hR1 hT1 hk1 hE ho' hFA' C' hxok hmem hxl hls' hls hy hva hcl hv1 hv2 hv3 hbw hmax
          go_wp2_with (first | (go_at_call 28; refine REC.out.mono ?_; rintro e w5 ⟨rfl, v5, q1, q2⟩; have HX5 := Lib.hid (Lx_up HX1'.out.1 HO.out q1); have HR5 := Lib.hid (Lr_up HR1'.out q1); have HT5 := Lib.hid (HT1'.out.trans q2); have HK5 := Lib.hid (blk_turn HK1'.out (Nat.ne_of_gt zm) (by decide) HX1'.out.1 q2); clear q1 q2) | ((with_reducible refine gate_dst (N := 29) rfl ?_); refine Kd.N_append (Kd.int .i64) (w0 := w5) (W := w5) w.heap.size rfl (.tmp 24) (.tmp 28) 32 3 (.int .i64 0) 8 rfl Tryd.underlying32 info3 rfl (by decide) (by omega) u5 ls y [.int .i64 y] (fun _ => True) (fun _ => False) rfl rfl (fun _ _ => rfl) (fun _ hk => hk.elim) (fun _ _ => trivial) HR5.out (Below.refl _ _) HT5.out.2.2 hj6 ?_; intro v6 w6 hN6 hB6 hg6 hat6; have HX6 := Lib.hid (Lx_grown HX5.out (fun he => (Lr_mb HR5.out HX5.out.1 mb he.symm).1 rfl) (fun k hk he => by have h1 := Kd.N_base HR5.out k he.symm; have h2 := (HO.out k hk).1; have h3 := HL.out.2.2.2.1; omega) (HL.out.2.2.1.size) hB6 hg6 hat6); have HT6 := Lib.hid (HT5.out.grown hg6 (Kd.N_base HR5.out)); have HK6 := Lib.hid (blk_grown HK5.out hg6 (Kd.N_ne HR5.out HK5.out (by decide))); have HR6 := Lib.hid (show Lr w w6 v6 (ls ++ [y]) from hN6); clear hN6 hB6 hg6 hat6))
          refine ⟨⟨j + 1, ls ++ [y], va', cl', v5, hjl, congrArg (Value.int .i64) EW.out, HLS.out, HR6.out, HX6.out, HT6.out, HK6.out, ?_, hn1, hn2, hn3⟩, ?_⟩
          · rw [HE1.out, List.append_assoc]; rfl
          · rw [EW.out]
            simp only [intOf, Int.toNat_natCast]
            exact meas_lt hjl
        · have hjj : j = t.f3.length := by omega
          rw [hjj, List.drop_length, litL, List.append_nil] at hE
          have hle := HLE.out
          rw [hE] at hle
          simp only at hle
          obtain ⟨e1, e2, e3, e4, e5⟩ := hle
          have h16 : 16 ≤ t.f0 ∧ t.f0 ≤ 21 := by unfold joinsB at hj; simp at hj; exact hj
          have hb4 : vars2 + 1 ≤ 1000000 := by omega
          have hb5 : cls2.length + ls.length + 1 ≤ 1000000 := by omega
          have hne : t.f0 = 18 ∨ t.f0 = 21 → ls ≠ [] := fun h he => HOK.out.1 h (by rw [he] at e3; exact List.length_eq_zero_iff.1 e3.symm)
          have ew : wrap64 (vars2 + 1) = vars2 + 1 := one64 (by omega) (by omega)
          have ew2 : wrap64 (-(vars2 + 1)) = -(vars2 + 1) := neg64 (by omega) (by omega)
          have HE2 := HE.out
          rw [if_pos hj, hE] at HE2
          simp only at HE2
          have HRES := Lib.hid HE2
          have HLR := Lib.hid hLr
          have HLX := Lib.hid hLx
          have HT := Lib.hid hT
          have HB4 := Lib.hid e4
          have pv : wr.cell? ⟨mb, 1, none⟩ = some (.int .i64 vars2) := (blk_cell hLx.1.1 1).trans rfl
          have fv : wr.frozen? ⟨mb, 1, none⟩ = false := blk_frozen hLx.1.1 1
          have pt : wr.cell? ⟨w.heap.size, 0, none⟩ = some (.int .i64 t.f0) := (blk_cell hk 0).trans rfl
          have zmr : mb < wr.heap.size := blk_lt hLx.1.1
          have znm : mb ≠ w.heap.size := Nat.ne_of_lt zm
          clear HE HE2 HLE HIH HX1 HT1 KT HOK hE hLr hLx hT hk hv1 hv2 hv3 e1 e2 e4 e5
          have hjx : (((j : Nat) : Int) < ((t.f3.length : Nat) : Int)) = False := eq_false (by omega)
          have HV := Lib.hid (Ls_vars HLX.out.1 (fun k hk => (HO.out k hk).2) h0 (vars2 + 1))
          have HRV := Lib.hid (Lr_set HLR.out HLX.out.1 1 (.int .i64 (vars2 + 1)))
          have HTV := Lib.hid (HT.out.set 1 (.int .i64 (vars2 + 1)))
          have hsz := Lib.hid (show (wr.setCell ⟨mb, 1, none⟩ (.int .i64 (vars2 + 1))).heap.size = wr.heap.size by simp [World.setCell])
          clear e3 hls hjj
          generalize hop : t.f0 = op at *
          rcases (show op = 16 ∨ op = 17 ∨ op = 18 ∨ op = 19 ∨ op = 20 ∨ op = 21 by omega) with rfl | rfl | rfl | rfl | rfl | rfl
          · have HR := HRES.out
            rw [if_neg (by decide), addC_16] at HR
            replace HR := Lib.hid HR
            go_wp2_with (go_at_call 27; refine (add1_ls mb w0 wL oka HO.out h0 _ v2 (vars2 + 1) cls2 (vars2 + 1) wr.heap.size _ hsz.out HV.out (by omega)).mono ?_; rintro e w5 ⟨rfl, v5, q1, q2⟩; have Q1 := Lib.hid q1; have Q2 := Lib.hid (HTV.out.trans q2); clear q1 q2)
            refine bodyPost_ret (v := .int .i64 (vars2 + 1)) (by simp [results, Tryd.results28, go_sem]) rfl ⟨by rw [HR.out], v5, ?_, Q2.out⟩
            rw [HR.out]; exact Q1.out
          · have HR := HRES.out
            rw [if_neg (by decide), addC_17] at HR
            replace HR := Lib.hid HR
            go_wp2_with (go_at_call 27; refine (add1_ls mb w0 wL oka HO.out h0 _ v2 (vars2 + 1) cls2 (-(vars2 + 1)) wr.heap.size _ hsz.out HV.out (by omega)).mono ?_; rintro e w5 ⟨rfl, v5, q1, q2⟩; have Q1 := Lib.hid q1; have Q2 := Lib.hid (HTV.out.trans q2); clear q1 q2)
            refine bodyPost_ret (v := .int .i64 (vars2 + 1)) (by simp [results, Tryd.results28, go_sem]) rfl ⟨by rw [HR.out], v5, ?_, Q2.out⟩
            rw [HR.out]; exact Q1.out
          · obtain ⟨y, ys, rfl⟩ : ∃ y ys, ls = y :: ys := by cases ls with | nil => exact absurd rfl (hne (.inl rfl)) | cons y ys => exact ⟨y, ys, rfl⟩
            have HR := HRES.out
            rw [if_pos rfl] at HR
            replace HR := Lib.hid HR
            have HLX2 := Lib.hid HLX.out.1
            clear HLX HRV
            obtain ⟨g, cg, rfl, pg, fg⟩ := hd_cell HLR.out
            have eny : wrap64 (-y) = -y := neg64 (by have := HB4.out y List.mem_cons_self; omega) (by have := HB4.out y List.mem_cons_self; omega)
            go_wp2_with fail
            refine bodyPost_ret (v := .int .i64 (-y)) (by simp [results, Tryd.results28, go_sem]) rfl ⟨by rw [HR.out]; rfl, v2, ?_, HT.out⟩
            rw [HR.out]; exact HLX2.out
          · have HR := HRES.out
            rw [if_neg (by decide), addC_19] at HR
            replace HR := Lib.hid HR
            have hbn : ∀ x, x ∈ ls → -1000000 ≤ x ∧ x ≤ 1000000 := fun x hx => by have := HB4.out x hx; omega
            have HBN := Lib.hid hbn
            clear hbn HLR HLX
            obtain ⟨B5, c5, rfl⟩ := n_slice (n := ls.length) HRV.out rfl
            have hc5 := (Kd.N_reads' HRV.out).2.1
            go_wp2_with (first | (go_at_call 43; refine (pairs_ls mb w0 wL oka HO.out h0 _ v2 (vars2 + 1) (-(vars2 + 1)) cls2 ls B5 c5 _ HV.out (Kd.N_F (Lr_any HRV.out HV.out)) hc5 (by omega)).mono ?_; rintro e w5 ⟨rfl, v5, q1, q2⟩; have Q1 := Lib.hid q1; have Q2 := Lib.hid (HTV.out.trans q2); have Q3 := Lib.hid (Lr_turn HRV.out HV.out q2); clear q1 q2) | (go_at_call 44; refine (turned_any (vars2 + 1) ls B5 c5 w5 w5 (Kd.N_reads' Q3.out).2.2 hc5 HBN.out (by omega) (Nat.le_refl _)).mono ?_; rintro e w6 ⟨v6, rfl, q3, q4⟩; obtain ⟨g6, c6, rfl⟩ := n_slice (n := ls.length + 1) q3 (by simp); have Q5 := Lib.hid q3; have Q6 := Lib.hid q4; clear q3 q4) | (go_at_call 27; refine (addrow_ls mb w0 wL oka HO.out h0 _ v5 (vars2 + 1) _ _ g6 (ls.length + 1) c6 (by simp) w5 w6 Q1.out Q6.out Q5.out (by simp; omega)).mono ?_; rintro e w7 ⟨rfl, v7, q5, q6⟩; have Q7 := Lib.hid q5; have Q8 := Lib.hid (Q2.out.trans q6); clear q5 q6))
            refine bodyPost_ret (v := .int .i64 (vars2 + 1)) (by simp [results, Tryd.results28, go_sem]) rfl ⟨by rw [HR.out], v7, ?_, Q8.out⟩
            rw [HR.out]; exact Q7.out
          · have HR := HRES.out
            rw [if_neg (by decide), addC_20] at HR
            replace HR := Lib.hid HR
            have hbn : ∀ x, x ∈ ls → -1000000 ≤ x ∧ x ≤ 1000000 := fun x hx => by have := HB4.out x hx; omega
            have HBN := Lib.hid hbn
            clear hbn HLR HLX
            obtain ⟨B5, c5, rfl⟩ := n_slice (n := ls.length) HRV.out rfl
            have hc5 := (Kd.N_reads' HRV.out).2.1
            go_wp2_with (first | (go_at_call 44; refine (turned_any 0 (ls) (B5) c5 _ _ (Kd.N_reads' HRV.out).2.2 hc5 HBN.out (by (try simp only [List.length_cons]); omega) (Nat.le_refl _)).mono ?_; rintro e w6 ⟨v6, rfl, q3, q4⟩; have zb6 := Kd.N_base q3; obtain ⟨g6, c6, rfl⟩ := n_form (n := ls.length + 1) q3 (by simp) (Nat.succ_pos _); have zb7 := zb6 g6 rfl; clear zb6; have HV6 := Lib.hid (Ls_below HV.out q4 (fun k hk => (HO.out k hk).1)); have HR6 := Lib.hid (Lr_below HRV.out q4); have HT6 := Lib.hid (HTV.out.below q4); have TF := Lib.hid (tail_F (okc := fun k => k ≠ mb ∧ some k ≠ v2.ownBlock) q3 ⟨by have := blk_lt HV.out.1; omega, fun he => by have := Kd.N_lt HV.out.2.1 _ he.symm; omega⟩); clear q3 q4 zb7) | (go_at_call 43; refine (pairs_ls' mb w0 wL oka HO.out h0 _ v2 (vars2 + 1) (vars2 + 1) cls2 ((ls).map fun n => -n) ls.length (by simp) _ _ w6 HV6.out ?hF ?hcl (by omega)).mono ?_; (case hF => first | exact TF.out.2.2 _ (fun _ => rfl) (fun hx => absurd (by assumption) hx) | exact TF.out.2.2 _ (fun hx => absurd hx (by assumption)) (fun _ => rfl)); (case hcl => have := TF.out.2.1; omega); rintro e w7 ⟨rfl, v7, q1, q2⟩; have Q1 := Lib.hid q1; have Q2 := Lib.hid (HT6.out.trans q2); have Q3 := Lib.hid (Lr_turn HR6.out HV6.out q2); clear q1 q2) | ((with_reducible refine gate_dst (N := 95) rfl ?_); refine Kd.N_lit (Kd.int .i64) (w0 := w7) (W := w7) w7.heap.size 3 ?hg (N' := 95) ?hd (xs := [-(vars2 + 1)]) (inner := [.int .i64 (-(vars2 + 1))]) (ok := fun _ => True) (okp := fun _ => True) ?hr ?hp (fun _ hk => hk) trivial (Below.refl _ _) (Nat.le_refl _) (by simp) ?_; (case hd => rfl); (case hg => rfl); (case hr => first | (go_simp; done) | (go_simp; rfl)); (case hp => exact (Reps.one (show Kd.FK (Kd.int .i64) _ _ _ [.int .i64 (-(vars2 + 1))] from fun _ _ => rfl) (Reps.none _ _))); intro v8 w8 ho8 hb8 hg8 hat8; have HR8 := Lib.hid (show Lr w7 w8 v8 [-(vars2 + 1)] from ho8); have HB8 := Lib.hid hb8; clear ho8 hb8 hg8 hat8) | ((with_reducible refine gate_dst (N := 97) rfl ?_); refine Kd.N_append_rows (Kd.int .i64) (w0 := w7) (W := w8) w7.heap.size rfl (.tmp 95) (.tmp 96) 32 3 (.int .i64 0) 8 rfl Tryd.underlying32 info3 rfl (by decide) (by omega) v8 [-(vars2 + 1)] (ls) (B5) (ls.length) c5 (fun _ => True) (fun k => some k ≠ v8.ownBlock) rfl rfl HR8.out (Kd.N_F (N_int_any (Lr_below Q3.out HB8.out) (fun k hk he => by have h1 := Kd.N_lt Q3.out k hk; have h2 := Kd.N_base HR8.out k he.symm; omega))) (fun k hk => ⟨trivial, hk⟩) (fun _ _ => trivial) HB8.out HB8.out.size (by simp only [List.length_singleton]; omega) ?_; intro v9 w9 ho9 hb9 hg9 hat9; obtain ⟨B9, c9, rfl⟩ := n_slice (n := ls.length + 1) ho9 (by simp; (try omega)); have HR9 := Lib.hid (show Lr w7 w9 _ _ from ho9); have HB9 := Lib.hid hb9; clear ho9 hb9 hg9 hat9) | (go_at_call 27; refine (addrow_ls mb w0 wL oka HO.out h0 _ v7 (vars2 + 1) _ ([-(vars2 + 1)] ++ (ls)) B9 (ls.length + 1) c9 (by simp; (try omega)) w7 w9 Q1.out HB9.out HR9.out (by simp; omega)).mono ?_; rintro e w10 ⟨rfl, v10, q5, q6⟩; have Q7 := Lib.hid q5; have Q8 := Lib.hid (Q2.out.trans q6); clear q5 q6))
            all_goals
              refine bodyPost_ret (v := .int .i64 (vars2 + 1)) (by simp [results, Tryd.results28, go_sem]) rfl ⟨by rw [HR.out], v10, ?_, Q8.out⟩
              rw [HR.out]; exact Q7.out
          · obtain ⟨y, ys, rfl⟩ : ∃ y ys, ls = y :: ys := by cases ls with | nil => exact absurd rfl (hne (.inr rfl)) | cons y ys => exact ⟨y, ys, rfl⟩
            have HR := HRES.out
            rw [if_neg (by decide), addC_21, addC_20] at HR
            replace HR := Lib.hid HR
            rw [List.length_cons] at hb5
            have hy := HB4.out y List.mem_cons_self
            have hbn : ∀ x, x ∈ ((-y) :: ys) → -1000000 ≤ x ∧ x ≤ 1000000 := fun x hx => by
              rcases List.mem_cons.1 hx with rfl | hx
              · omega
              · have := HB4.out x (List.mem_cons_of_mem _ hx); omega
            have HBN := Lib.hid hbn
            have eny : wrap64 (-y) = -y := neg64 (by omega) (by omega)
            have HXV := Lib.hid (Lx_vars HLX.out (fun k hk => (HO.out k hk).2) h0 (vars2 + 1))
            clear hbn HLX HV hy
            obtain ⟨g, cg, rfl, pg, fg⟩ := hd_cell HLR.out
            have hc5 := (Kd.N_reads' HRV.out).2.1
            have hgm : g ≠ mb := (Lr_mb HRV.out HXV.out.1 g rfl).1
            have hgw : w.heap.size ≤ g := Kd.N_base HRV.out g rfl
            have hwm : mb < w.heap.size := zm
            have hcell : (wr.setCell ⟨mb, 1, none⟩ (.int .i64 (vars2 + 1))).cell? ⟨g, 0, none⟩ = some (.int .i64 y) := by simp [go_sem, pg, hgm, Ne.symm hgm]
            have HCELL := Lib.hid hcell
            clear hcell
            go_wp2_with (first | ((with_reducible refine gate_store (t := 3) (p := 85) (v := .tmp 84) rfl ?_); refine Hid.out ?_))
            refine Lib.hid ?_
            refine Kd.N_store (Kd.int .i64) (w0 := (wr.setCell ⟨mb, 1, none⟩ (.int .i64 (vars2 + 1)))) w.heap.size rfl rfl 3 (.tmp 85) (.tmp 84) rfl 3 (g := g) (n := ys.length + 1) (cap := cg) (0 : Int) 0 (y :: ys) (-y) (.int .i64 (-y)) [.int .i64 (-y)] [.int .i64 y] (fun _ => True) (fun _ => False) rfl ?hoff rfl rfl (by kernel_rfl) ?h1 HRV.out (by decide) (by omega) rfl ?hcc (Nat.le_refl _) (fun _ _ => rfl) (fun _ hk => hk.elim) (Below.refl _ _) ?_
            (case hoff => first | rfl | (simp; done))
            (case h1 => intro q hq; rw [List.mem_singleton.1 hq]; rfl)
            (case hcc => intro jj uu hu; cases jj with | zero => (have e : uu = .int .i64 y := by simpa using hu.symm); rw [e]; exact HCELL.out | succ jj => simp at hu)
            intro w3 hn3 hb3 hg3
            have HV := Lib.hid (Lx_grown (u1 := .slice (some ⟨g, 0, none⟩) (ys.length + 1) cg) HXV.out (fun he => hgm (by injection he with he; exact he.symm)) (fun k hk he => by (have h1 : k = g := by injection he); have h2 := (HO.out k hk).1; have h3 := HL.out.2.2.2.1; omega) (HL.out.2.2.1.size) hb3 hg3 (.inl rfl)).1
            have HRV3 := Lib.hid (show Lr w w3 (.slice (some ⟨g, 0, none⟩) (ys.length + 1) cg) ((-y) :: ys) from hn3)
            have HTV3 := Lib.hid (HTV.out.grown (u := .slice (some ⟨g, 0, none⟩) (ys.length + 1) cg) hg3 (Kd.N_base HRV3.out))
            clear hn3 hb3 hg3 HRV HTV HXV HCELL
            have HRV := HRV3
            have HTV := HTV3
            clear HRV3 HTV3
            go_wp2_with (first | (go_at_call 44; refine (turned_any 0 ((-y) :: ys) (some ⟨g, 0, none⟩) cg _ _ (Kd.N_reads' HRV.out).2.2 hc5 HBN.out (by (try simp only [List.length_cons]); omega) (Nat.le_refl _)).mono ?_; rintro e w6 ⟨v6, rfl, q3, q4⟩; have zb6 := Kd.N_base q3; obtain ⟨g6, c6, rfl⟩ := n_form (n := (ys.length + 1) + 1) q3 (by simp) (Nat.succ_pos _); have zb7 := zb6 g6 rfl; clear zb6; have HV6 := Lib.hid (Ls_below HV.out q4 (fun k hk => (HO.out k hk).1)); have HR6 := Lib.hid (Lr_below HRV.out q4); have HT6 := Lib.hid (HTV.out.below q4); have TF := Lib.hid (tail_F (okc := fun k => k ≠ mb ∧ some k ≠ v2.ownBlock) q3 ⟨by have := blk_lt HV.out.1; omega, fun he => by have := Kd.N_lt HV.out.2.1 _ he.symm; omega⟩); clear q3 q4 zb7) | (go_at_call 43; refine (pairs_ls' mb w0 wL oka HO.out h0 _ v2 (vars2 + 1) (vars2 + 1) cls2 (((-y) :: ys).map fun n => -n) (ys.length + 1) (by simp) _ _ w6 HV6.out ?hF ?hcl (by omega)).mono ?_; (case hF => first | exact TF.out.2.2 _ (fun _ => rfl) (fun hx => absurd (by assumption) hx) | exact TF.out.2.2 _ (fun hx => absurd hx (by assumption)) (fun _ => rfl)); (case hcl => have := TF.out.2.1; omega); rintro e w7 ⟨rfl, v7, q1, q2⟩; have Q1 := Lib.hid q1; have Q2 := Lib.hid (HT6.out.trans q2); have Q3 := Lib.hid (Lr_turn HR6.out HV6.out q2); clear q1 q2) | ((with_reducible refine gate_dst (N := 95) rfl ?_); refine Kd.N_lit (Kd.int .i64) (w0 := w7) (W := w7) w7.heap.size 3 ?hg (N' := 95) ?hd (xs := [-(vars2 + 1)]) (inner := [.int .i64 (-(vars2 + 1))]) (ok := fun _ => True) (okp := fun _ => True) ?hr ?hp (fun _ hk => hk) trivial (Below.refl _ _) (Nat.le_refl _) (by simp) ?_; (case hd => rfl); (case hg => rfl); (case hr => first | (go_simp; done) | (go_simp; rfl)); (case hp => exact (Reps.one (show Kd.FK (Kd.int .i64) _ _ _ [.int .i64 (-(vars2 + 1))] from fun _ _ => rfl) (Reps.none _ _))); intro v8 w8 ho8 hb8 hg8 hat8; have HR8 := Lib.hid (show Lr w7 w8 v8 [-(vars2 + 1)] from ho8); have HB8 := Lib.hid hb8; clear ho8 hb8 hg8 hat8) | ((with_reducible refine gate_dst (N := 97) rfl ?_); refine Kd.N_append_rows (Kd.int .i64) (w0 := w7) (W := w8) w7.heap.size rfl (.tmp 95) (.tmp 96) 32 3 (.int .i64 0) 8 rfl Tryd.underlying32 info3 rfl (by decide) (by omega) v8 [-(vars2 + 1)] ((-y) :: ys) (some ⟨g, 0, none⟩) ((ys.length + 1)) cg (fun _ => True) (fun k => some k ≠ v8.ownBlock) rfl rfl HR8.out (Kd.N_F (N_int_any (Lr_below Q3.out HB8.out) (fun k hk he => by have h1 := Kd.N_lt Q3.out k hk; have h2 := Kd.N_base HR8.out k he.symm; omega))) (fun k hk => ⟨trivial, hk⟩) (fun _ _ => trivial) HB8.out HB8.out.size (by simp only [List.length_singleton]; omega) ?_; intro v9 w9 ho9 hb9 hg9 hat9; obtain ⟨B9, c9, rfl⟩ := n_slice (n := (ys.length + 1) + 1) ho9 (by simp; (try omega)); have HR9 := Lib.hid (show Lr w7 w9 _ _ from ho9); have HB9 := Lib.hid hb9; clear ho9 hb9 hg9 hat9) | (go_at_call 27; refine (addrow_ls mb w0 wL oka HO.out h0 _ v7 (vars2 + 1) _ ([-(vars2 + 1)] ++ ((-y) :: ys)) B9 ((ys.length + 1) + 1) c9 (by simp; (try omega)) w7 w9 Q1.out HB9.out HR9.out (by simp; omega)).mono ?_; rintro e w10 ⟨rfl, v10, q5, q6⟩; have Q7 := Lib.hid q5; have Q8 := Lib.hid (Q2.out.trans q6); clear q5 q6))
            all_goals
              refine bodyPost_ret (v := .int .i64 (vars2 + 1)) (by simp [results, Tryd.results28, go_sem]) rfl ⟨by rw [HR.out], v10, ?_, Q8.out⟩
              rw [HR.out]; exact Q7.out
    · have hj2 : joinsB t.f0 = false := by simpa using hj
      have hlen := Kd.F_max hFA
      have hB1 : Below w.heap.size w (w.alloc O) := below_alloc (Below.refl _ _) O
      have AT := Lib.hid (at_any ats t Aa A ca c mb (.int .i64 vars) vc (w.alloc O) (Kd.C_below (Kd.F_now hFAw) hB1) hca (Kd.C_below hCw hB1) hc ((blk_cell (blk_alloc hL.1 O) 0).trans rfl))
      have hf := findT_le t ats 0
      have EW := Lib.hid (one64 (x := findT ats t 0) (by omega) (by omega))
      have HO := Lib.hid ho
      clear hL hC hFA ih hok hFAw hCw hlen hB1 ho hf
      go_enter Tryd.func28, Tryd.ntmps28
      go_wp2_with (first | (go_at_call 25; refine (joins_any _ _).mono ?_; rw [hj2]; rintro e w2 ⟨rfl, rfl⟩) | (go_at_call 26; refine AT.out.mono ?_; rintro e w2 ⟨rfl, hb2⟩; have HB2 := Lib.hid hb2; clear hb2))
      refine bodyPost_ret (v := .int .i64 (findT ats t 0 + 1)) (by simp [results, Tryd.results28, go_sem, EW.out]) rfl ⟨by rw [HE.out, if_neg hj], vc, ?_, ?_⟩
      · rw [HE.out, if_neg hj]
        exact Ls_below (Ls_below HL.out (below_alloc (Below.refl _ _) O) (fun k hk => (HO.out k hk).1)) HB2.out (fun k hk => (HO.out k hk).1)
      · exact ((Turn.refl mb vc w).alloc O).below HB2.out
end Go.Proofs.YthckboogibhjaaaDoor.Trm
