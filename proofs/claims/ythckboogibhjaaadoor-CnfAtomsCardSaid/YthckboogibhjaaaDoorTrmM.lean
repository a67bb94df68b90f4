/- cnf.Clauses' closure: one atom more. -/
import Derived.Test.YthckboogibhjaaaDoorTk
import Derived.Test.YthckboogibhjaaaDoorTrmL
import Derived.Test.YthckboogibhjaaaDoorWNEv
import Derived.Deep.RegionWith
namespace Go.Proofs.YthckboogibhjaaaDoor.Trm
set_option linter.unusedVariables false
set_option linter.unusedSimpArgs false
open Go.RowKit Go.Proofs.YthckboogibhjaaaDoorW.PrintWords Go.Proofs.YthckboogibhjaaaDoorW.PrintMore

/-- What the closure makes of the atoms. -/
def atomF (s : List S24) (x : S24) : List S24 := if joinsB x.f0 = true then s else if findT s x 0 < 0 then s ++ [x] else s
theorem atomF_len (s : List S24) (x : S24) : (atomF s x).length ≤ s.length + 1 := by
  unfold atomF
  repeat' split
  all_goals simp

/-- The maker while atoms are gathered: mb its block, bx the variable's box. -/
def St (mb bx : Nat) (w0 : World) (P : Nat → Prop) (s : List S24) (va : Value) (W : World) : Prop :=
  W.heap[bx]? = some (.cells #[.pointer (some ⟨mb, 0, none⟩)] 45 (0, 0)) ∧ W.heap[mb]? = some (.cells #[va, .int .i64 0, .slice none 0 0] 47 (0, 0)) ∧ Kd.N k24 24 W w0.heap.size (fun k => (P k ∨ w0.heap.size ≤ k) ∧ k ≠ mb ∧ k ≠ bx) va s ∧ Below w0.heap.size w0 W

theorem infoT : (Tryd.prog.info? 24).map (fun i => (i.zero, i.size, i.bytes)) = some (some (.agg #[(.int .i64 0), (.string ⟨#[]⟩), (.int .i64 0), (.slice none 0 0)]), 4, 56) := by kernel_rfl
theorem St_alloc {mb bx : Nat} {w0 : World} {P : Nat → Prop} {s : List S24} {va : Value} {W : World} (h : St mb bx w0 P s va W) (o : Obj) : St mb bx w0 P s va (W.alloc o) :=
  ⟨blk_alloc h.1 o, blk_alloc h.2.1 o, Kd.N_alloc h.2.2.1 o, h.2.2.2.alloc h.2.2.2.size o⟩

/-- What the regions read, off the two blocks. -/
theorem sb_cells {W : World} {bx tb mb : Nat} {x : S24} {B : Option Addr} {d : Nat} (h1 : W.heap[bx]? = some (.cells #[.pointer (some ⟨mb, 0, none⟩)] 45 (0, 0))) (h2 : W.heap[tb]? = some (.cells #[.int .i64 x.f0, .string x.f1, .int .i64 x.f2, .slice B x.f3.length d] 24 (0, 0))) :
    W.cell? ⟨bx, 0, none⟩ = some (.pointer (some ⟨mb, 0, none⟩)) ∧ W.cell? ⟨tb, 0, none⟩ = some (.int .i64 x.f0) ∧ W.cell? ⟨tb, 1, none⟩ = some (.string x.f1) ∧ W.cell? ⟨tb, 2, none⟩ = some (.int .i64 x.f2) ∧ W.cell? ⟨tb, 3, none⟩ = some (.slice B x.f3.length d) :=
  ⟨(blk_cell h1 0).trans rfl, (blk_cell h2 0).trans rfl, (blk_cell h2 1).trans rfl, (blk_cell h2 2).trans rfl, (blk_cell h2 3).trans rfl⟩
theorem n_slice {α : Type} {d : Kd α} {e base n : Nat} {ok : Nat → Prop} {w : World} {v : Value} {xs : List α} (h : Kd.N d e w base ok v xs) (hl : xs.length = n) : ∃ A c, v = .slice A n c := by
  subst hl
  exact Kd.N_slice h
theorem n_form {α : Type} {d : Kd α} {e base n : Nat} {ok : Nat → Prop} {w : World} {v : Value} {xs : List α} (h : Kd.N d e w base ok v xs) (hl : xs.length = n) (hp : 0 < n) : ∃ g c, v = .slice (some ⟨g, 0, none⟩) n c := by
  subst hl
  obtain ⟨g, c, e, _⟩ := Kd.N_form h hp
  exact ⟨g, c, e⟩
theorem fk_zero (W : World) (ok : Nat → Prop) : Kd.FK k24 W ok z24 [.int .i64 0, .string ⟨#[]⟩, .int .i64 0, .slice none 0 0] := k24_mkF W ok z24 (Nat.le_refl _) (Kd.F_nil _ _ _)

theorem cc_same {mb bx : Nat} {w0 W w2 : World} {P : Nat → Prop} {s : List S24} {va : Value} (h : St mb bx w0 P s va W) (O : Obj) (hb : Below (W.alloc O).heap.size (W.alloc O) w2) : St mb bx w0 P s va w2 ∧ Turn mb va va W w2 := by
  have h1 := St_alloc h O
  have h2 := hb.size
  refine ⟨⟨blk_below h1.1 hb, blk_below h1.2.1 hb, Kd.N_below h1.2.2.1 hb, h1.2.2.2.trans (hb.mono h1.2.2.2.size)⟩, .inl rfl, fun k k1 _ _ => (hb.block k (by simp; omega)).trans (Below.heap_alloc _ _ _ k1), by simp at h2; omega⟩
theorem cc_fin {mb bx : Nat} {w0 W wx w5 : World} {P : Nat → Prop} {s' : List S24} {va v1 : Value} (hmx : mb ≠ bx) (h0m : w0.heap.size ≤ mb)
    (KX5 : w5.heap[bx]? = some (.cells #[.pointer (some ⟨mb, 0, none⟩)] 45 (0, 0))) (KM5 : w5.heap[mb]? = some (.cells #[va, .int .i64 0, .slice none 0 0] 47 (0, 0)))
    (HO5 : Kd.N k24 24 w5 w0.heap.size (fun k => (P k ∨ w0.heap.size ≤ k) ∧ k ≠ mb ∧ k ≠ bx) v1 s') (HB5 : Below w0.heap.size w0 w5)
    (HA5 : v1.ownBlock = va.ownBlock ∨ ∃ b, v1.ownBlock = some b ∧ wx.heap.size ≤ b) (HG5 : wx.grownBy w5 va.ownBlock) (hwx : Below W.heap.size W wx) :
    St mb bx w0 P s' v1 (w5.setCell ⟨mb, 0, none⟩ v1) ∧ Turn mb va v1 W (w5.setCell ⟨mb, 0, none⟩ v1) := by
  refine ⟨⟨blk_far KX5 (Ne.symm hmx) _, blk_put KM5 0 _ rfl, Kd.N_far HO5 (fun k hk => hk.2.1) _, HB5.setCell h0m _⟩, ?_, ?_, ?_⟩
  · rcases HA5 with h | ⟨b, h, k⟩
    · exact .inl h
    · exact .inr ⟨b, h, Nat.le_trans hwx.size k⟩
  · intro k h1 h2 h3
    exact (Below.heap_setCell _ _ _ _ h2).trans ((HG5.block k (Nat.lt_of_lt_of_le h1 hwx.size) h3).trans (hwx.block k h1))
  · have h1 := HG5.size
    have h2 := hwx.size
    simp [World.setCell]; omega
theorem cc_fin2 {mb bx g : Nat} {w0 W w6 w7 : World} {P : Nat → Prop} {s6 s7 : List S24} {va v1 : Value} (hmx : mb ≠ bx) (hg : v1.ownBlock = some g)
    (h6 : St mb bx w0 P s6 v1 w6 ∧ Turn mb va v1 W w6) (HN : Kd.N k24 24 w7 w0.heap.size (fun k => (P k ∨ w0.heap.size ≤ k) ∧ k ≠ mb ∧ k ≠ bx) v1 s7) (HB : Below w0.heap.size w0 w7) (HG : w6.grownBy w7 (some g)) :
    St mb bx w0 P s7 v1 w7 ∧ Turn mb va v1 W w7 := by
  obtain ⟨⟨a1, a2, a3, a4⟩, b1, b2, b3⟩ := h6
  have hok := a3.1 g hg
  refine ⟨⟨blk_grown a1 HG (fun h => hok.2.2 (by injection h with h; exact h.symm)), blk_grown a2 HG (fun h => hok.2.1 (by injection h with h; exact h.symm)), HN, HB⟩, b1, ?_, Nat.le_trans b3 HG.size⟩
  intro k h1 h2 h3
  refine (HG.block k (Nat.lt_of_lt_of_le h1 b3) ?_).trans (b2 k h1 h2 h3)
  intro he
  injection he with he
  subst he
  rcases b1 with h | ⟨b, h, hb⟩
  · exact h3 (by rw [← h, hg])
  · rw [hg] at h; injection h with h; omega
theorem set_last {α : Type} (s : List α) (z x : α) : (s ++ [z]).set s.length x = s ++ [x] := by
  rw [List.set_append_right _ _ (Nat.le_refl _), Nat.sub_self, List.set_cons_zero]

set_option maxHeartbeats 8000000 in
set_option maxRecDepth 100000 in
theorem cc_any (mb bx : Nat) (hmx : mb ≠ bx) (w0 : World) (P : Nat → Prop) (h0m : w0.heap.size ≤ mb) (h0x : w0.heap.size ≤ bx) (x : S24) (B : Option Addr) (d : Nat) (s : List S24) (va : Value) (W : World) (hS : St mb bx w0 P s va W) (hlen : s.length + 1 ≤ 1000000) (hC : Kd.F k24 w0 P B x.f3.length x.f3) (hd : x.f3.length ≤ d) :
    Calls Tryd.prog 24 #[.agg #[.int .i64 x.f0, .string x.f1, .int .i64 x.f2, .slice B x.f3.length d], .pointer (some ⟨bx, 0, none⟩)] W fun e w' => e = .returned (.tuple #[]) ∧ ∃ v1, St mb bx w0 P (atomF s x) v1 w' ∧ Turn mb va v1 W w' := by
  obtain ⟨hbx, hmb, hN, hB⟩ := hS
  obtain ⟨Aa, ca, rfl⟩ := Kd.N_slice hN
  have zx := blk_lt hbx
  have zm := blk_lt hmb
  let O : Obj := .cells #[.int .i64 x.f0, .string x.f1, .int .i64 x.f2, .slice B x.f3.length d] 24
  have hN1 := Kd.N_alloc hN O
  have hr1 := Kd.N_reads' hN1
  have hB1 := hB.alloc hB.size O
  have kx := blk_alloc hbx O
  have km := blk_alloc hmb O
  have kn := blk_new W O
  have AT := Lib.hid (at_any s x Aa B ca d mb (.int .i64 0) (.slice none 0 0) (W.alloc O) hr1.2.2 hr1.2.1 (Kd.C_below (Kd.F_now hC) hB1) hd ((blk_cell km 0).trans rfl))
  have px : W.cell? ⟨bx, 0, none⟩ = some (.pointer (some ⟨mb, 0, none⟩)) := (blk_cell hbx 0).trans rfl
  have HS := Lib.hid (show St mb bx w0 P s (.slice Aa s.length ca) W from ⟨hbx, hmb, hN, hB⟩)
  have HC := Lib.hid hC
  clear hN hN1 hr1 hB hB1 hC hbx hmb
  by_cases hj : joinsB x.f0 = true
  · go_enter Tryd.func24, Tryd.ntmps24
    go_wp2_with (go_at_call 25; refine (joins_any _ _).mono ?_; rw [hj]; rintro e w2 ⟨rfl, rfl⟩)
    refine bodyPost_end (v := .tuple #[]) (by simp [results, Tryd.results24, go_sem]) rfl ⟨rfl, .slice Aa s.length ca, ?_, (Turn.refl mb _ W).alloc _⟩
    rw [atomF, if_pos hj]
    exact St_alloc HS.out _
  · have hj2 : joinsB x.f0 = false := by simpa using hj
    by_cases hf : findT s x 0 < 0
    · have hf2 : (findT s x 0 < 0) = True := eq_true hf
      go_enter Tryd.func24, Tryd.ntmps24
      go_wp2_with (first | (go_at_call 25; refine (joins_any _ _).mono ?_; rw [hj2]; rintro e w2 ⟨rfl, rfl⟩) | (go_at_call 26; refine AT.out.mono ?_; rintro e w2 ⟨rfl, hb2⟩; have HB2 := Lib.hid hb2; clear hb2))
      refine wp_world (fun wx => Below (W.alloc O).heap.size (W.alloc O) wx) HB2.out (fun wa hwa => ?_)
      clear HB2 w2
      go_region
      all_goals go_wp2
      all_goals refine wp_world (fun wx => Below (W.alloc O).heap.size (W.alloc O) wx) (by exact (hwa.alloc hwa.size _).drew) (fun wx hwx => ?_)
      all_goals clear hwa
      · replace hwx := hwx.drew
        have HN := Lib.hid (Kd.N_below (Kd.N_alloc HS.out.2.2.1 O) hwx)
        have HBx := Lib.hid ((HS.out.2.2.2.alloc HS.out.2.2.2.size O).trans (hwx.mono (HS.out.2.2.2.alloc HS.out.2.2.2.size O).size))
        have HX := Lib.hid (blk_below kx hwx)
        have HT := Lib.hid (blk_below kn hwx)
        have HM := Lib.hid (blk_below km hwx)
        have hwx2 := Lib.hid hwx
        have pm : wx.drew.cell? ⟨mb, 0, none⟩ = some (.slice Aa s.length ca) := (blk_cell HM.out 0).trans rfl
        have pm2 : wx.cell? ⟨mb, 0, none⟩ = some (.slice Aa s.length ca) := pm
        have pma : ∀ o, (wx.drew.alloc o).cell? ⟨mb, 0, none⟩ = some (.slice Aa s.length ca) := fun o => (blk_cell (blk_alloc (o' := o) (w := wx.drew) HM.out) 0).trans rfl
        have zmw : mb < wx.heap.size := blk_lt HM.out
        clear kx km kn px hwx
        have hown := Lib.hid (fun k (hk : (Value.slice Aa s.length ca).ownBlock = some k) => Kd.N_lt HS.out.2.2.1 k hk)
        have HFK := Lib.hid (show Kd.FK k24 wx.drew (fun k => P k ∧ k < w0.heap.size) x [.int .i64 x.f0, .string x.f1, .int .i64 x.f2, .slice B x.f3.length d] from k24_mkF wx.drew _ x hd (Kd.F_step (Kd.F_bound HC.out) (fun k hk _ => HBx.out.block k hk.2)))
        have hnx : some bx ≠ (Value.slice Aa s.length ca).ownBlock := Kd.N_ne HN.out HX.out (by decide)
        have hnm : some mb ≠ (Value.slice Aa s.length ca).ownBlock := Kd.N_ne HN.out HM.out (by decide)
        have hnt : some W.heap.size ≠ (Value.slice Aa s.length ca).ownBlock := fun he => Nat.lt_irrefl _ (hown.out _ he.symm)
        have HNX := Lib.hid hnx
        have HNM := Lib.hid hnm
        have HNT := Lib.hid hnt
        clear hnx hnm hnt
        refine wp_region_held_drew (S := (fun w' => w'.cell? ⟨bx, 0, none⟩ = some (.pointer (some ⟨mb, 0, none⟩)) ∧ w'.cell? ⟨W.heap.size, 0, none⟩ = some (.int .i64 x.f0) ∧ w'.cell? ⟨W.heap.size, 1, none⟩ = some (.string x.f1) ∧ w'.cell? ⟨W.heap.size, 2, none⟩ = some (.int .i64 x.f2) ∧ w'.cell? ⟨W.heap.size, 3, none⟩ = some (.slice B x.f3.length d))) (by kernel_rfl) ?_ (fun hHeld => ?_)
        · (first | exact sb_cells HX.out HT.out | exact sb_cells (blk_alloc HX.out _) (blk_alloc HT.out _) | exact sb_cells KX5.out KT5.out | exact sb_cells (blk_far KX5.out (Ne.symm hmx) _) (blk_far KT5.out (show W.heap.size ≠ mb by omega) _))
        iterate 5 ((first | refine tk0 ?_ (by decide +kernel) (by rfl) (fun _ _ _ => id) ?_ (by assumption) ?_ | refine tk1 ?_ (by decide +kernel) (by rfl) (fun _ _ _ => id) ?_ (by assumption) ?_ | refine tk2 ?_ (by decide +kernel) (by rfl) (fun _ _ _ => id) ?_ (by assumption) ?_ | refine tk3 ?_ (by decide +kernel) (by rfl) (fun _ _ _ => id) ?_ (by assumption) ?_ | refine tk5 ?_ (by decide +kernel) (by rfl) (fun _ _ _ => id) ?_ (by assumption) ?_); (rotate_left 1); (focus (intro w_ hSw; (try dsimp only at hSw); go_simp; all_goals (with_reducible rfl); done)); focus try simp only [Act.put, List.setIfInBounds_toArray, List.set_cons_zero, List.set_cons_succ])
        refine wpAnyH_ready (rs := [4, 6]) (by kernel_rfl) (by simp) (ac4 (fun K hK => ?_) (ac6 (fun K hK => ?_) (AllReadyH.nil)))
        focus go_simp
        refine hK.out _ _ ?_ (fun hHeld => ?_)
        · (first | exact sb_cells HX.out HT.out | exact sb_cells (blk_alloc HX.out _) (blk_alloc HT.out _) | exact sb_cells KX5.out KT5.out | exact sb_cells (blk_far KX5.out (Ne.symm hmx) _) (blk_far KT5.out (show W.heap.size ≠ mb by omega) _))
        focus clear hK K; try simp only [Act.put, List.setIfInBounds_toArray, List.set_cons_zero, List.set_cons_succ]
        refine wpAnyH_ready (rs := [6]) (by kernel_rfl) (by simp) (ac6 (fun K hK => ?_) (AllReadyH.nil))
        focus go_simp
        refine hK.out _ _ ?_ (fun hHeld => ?_)
        · (first | exact sb_cells HX.out HT.out | exact sb_cells (blk_alloc HX.out _) (blk_alloc HT.out _) | exact sb_cells KX5.out KT5.out | exact sb_cells (blk_far KX5.out (Ne.symm hmx) _) (blk_far KT5.out (show W.heap.size ≠ mb by omega) _))
        focus clear hK K; try simp only [Act.put, List.setIfInBounds_toArray, List.set_cons_zero, List.set_cons_succ]
        refine wpAnyH_ready (rs := [7]) (by kernel_rfl) (by simp) (ac7 (fun K hK => ?_) (AllReadyH.nil))
        focus (refine Kd.N_append_step k24 (w0 := w0) (W := wx.drew) w0.heap.size rfl (.tmp 30) (.tmp 32) 22 24 (.agg #[(.int .i64 0), (.string ⟨#[]⟩), (.int .i64 0), (.slice none 0 0)]) 56 rfl Tryd.underlying22 infoT rfl (by decide) (by omega) (.slice Aa s.length ca) s x [.int .i64 x.f0, .string x.f1, .int .i64 x.f2, .slice B x.f3.length d] (fun k => (P k ∨ w0.heap.size ≤ k) ∧ k ≠ mb ∧ k ≠ bx) (fun k => P k ∧ k < w0.heap.size) rfl rfl HFK.out ?hok ?hfr HN.out HBx.out HBx.out.size (by omega) ?_; (case hok => exact fun k hk => ⟨⟨.inl hk.1, by have := hk.2; omega, by have := hk.2; omega⟩, fun he => by have := Kd.N_base HN.out k he.symm; have := hk.2; omega⟩); (case hfr => exact fun k hk => ⟨.inr (Nat.le_trans HBx.out.size hk), by have := blk_lt HM.out; omega, by have := blk_lt HX.out; omega⟩); intro v1 w5 ho hb hg hat; obtain ⟨a1, k1, rfl⟩ := n_slice (n := s.length + 1) ho List.length_append; have KX5 := Lib.hid (blk_grown HX.out hg HNX.out); have KT5 := Lib.hid (blk_grown HT.out hg HNT.out); have KM5 := Lib.hid (blk_grown HM.out hg HNM.out); have HO5 := Lib.hid ho; have HB5 := Lib.hid hb; have HA5 := Lib.hid hat; have HG5 := Lib.hid hg; have fm5 := blk_frozen KM5.out 0; have pm5 : w5.cell? ⟨mb, 0, none⟩ = some (.slice Aa s.length ca) := (blk_cell KM5.out 0).trans rfl; clear ho hb hat hg)
        refine hK.out _ _ ?_ (fun hHeld => ?_)
        · (first | exact sb_cells HX.out HT.out | exact sb_cells (blk_alloc HX.out _) (blk_alloc HT.out _) | exact sb_cells KX5.out KT5.out | exact sb_cells (blk_far KX5.out (Ne.symm hmx) _) (blk_far KT5.out (show W.heap.size ≠ mb by omega) _))
        focus clear hK K; try simp only [Act.put, List.setIfInBounds_toArray, List.set_cons_zero, List.set_cons_succ]
        iterate 2 ((first | refine tk8 ?_ (by decide +kernel) (by rfl) (fun _ _ _ => id) ?_ (by assumption) ?_ | refine tk9 ?_ (by decide +kernel) (by rfl) (fun _ _ _ => id) ?_ (by assumption) ?_); (rotate_left 1); (focus (intro w_ hSw; (try dsimp only at hSw); go_simp; all_goals (with_reducible rfl); done)); focus try simp only [Act.put, List.setIfInBounds_toArray, List.set_cons_zero, List.set_cons_succ])
        refine wpAnyH_ready (rs := [10]) (by kernel_rfl) (by simp) (ac10 (fun K hK => ?_) (AllReadyH.nil))
        focus go_simp
        refine hK.out _ _ ?_ (fun hHeld => ?_)
        · (first | exact sb_cells HX.out HT.out | exact sb_cells (blk_alloc HX.out _) (blk_alloc HT.out _) | exact sb_cells KX5.out KT5.out | exact sb_cells (blk_far KX5.out (Ne.symm hmx) _) (blk_far KT5.out (show W.heap.size ≠ mb by omega) _))
        focus clear hK K; try simp only [Act.put, List.setIfInBounds_toArray, List.set_cons_zero, List.set_cons_succ]
        refine wpAnyH_done (by kernel_rfl) ?_ _; rotate_left 1
        focus go_simp
        refine hK.out _ _ ?_ (fun hHeld => ?_)
        · (first | exact sb_cells HX.out HT.out | exact sb_cells (blk_alloc HX.out _) (blk_alloc HT.out _) | exact sb_cells KX5.out KT5.out | exact sb_cells (blk_far KX5.out (Ne.symm hmx) _) (blk_far KT5.out (show W.heap.size ≠ mb by omega) _))
        focus clear hK K; try simp only [Act.put, List.setIfInBounds_toArray, List.set_cons_zero, List.set_cons_succ]
        refine wpAnyH_ready (rs := [4]) (by kernel_rfl) (by simp) (ac4 (fun K hK => ?_) (AllReadyH.nil))
        focus go_simp
        refine hK.out _ _ ?_ (fun hHeld => ?_)
        · (first | exact sb_cells HX.out HT.out | exact sb_cells (blk_alloc HX.out _) (blk_alloc HT.out _) | exact sb_cells KX5.out KT5.out | exact sb_cells (blk_far KX5.out (Ne.symm hmx) _) (blk_far KT5.out (show W.heap.size ≠ mb by omega) _))
        focus clear hK K; try simp only [Act.put, List.setIfInBounds_toArray, List.set_cons_zero, List.set_cons_succ]
        refine wpAnyH_ready (rs := [7]) (by kernel_rfl) (by simp) (ac7 (fun K hK => ?_) (AllReadyH.nil))
        focus (refine Kd.N_append_step k24 (w0 := w0) (W := wx.drew) w0.heap.size rfl (.tmp 30) (.tmp 32) 22 24 (.agg #[(.int .i64 0), (.string ⟨#[]⟩), (.int .i64 0), (.slice none 0 0)]) 56 rfl Tryd.underlying22 infoT rfl (by decide) (by omega) (.slice Aa s.length ca) s x [.int .i64 x.f0, .string x.f1, .int .i64 x.f2, .slice B x.f3.length d] (fun k => (P k ∨ w0.heap.size ≤ k) ∧ k ≠ mb ∧ k ≠ bx) (fun k => P k ∧ k < w0.heap.size) rfl rfl HFK.out ?hok ?hfr HN.out HBx.out HBx.out.size (by omega) ?_; (case hok => exact fun k hk => ⟨⟨.inl hk.1, by have := hk.2; omega, by have := hk.2; omega⟩, fun he => by have := Kd.N_base HN.out k he.symm; have := hk.2; omega⟩); (case hfr => exact fun k hk => ⟨.inr (Nat.le_trans HBx.out.size hk), by have := blk_lt HM.out; omega, by have := blk_lt HX.out; omega⟩); intro v1 w5 ho hb hg hat; obtain ⟨a1, k1, rfl⟩ := n_slice (n := s.length + 1) ho List.length_append; have KX5 := Lib.hid (blk_grown HX.out hg HNX.out); have KT5 := Lib.hid (blk_grown HT.out hg HNT.out); have KM5 := Lib.hid (blk_grown HM.out hg HNM.out); have HO5 := Lib.hid ho; have HB5 := Lib.hid hb; have HA5 := Lib.hid hat; have HG5 := Lib.hid hg; have fm5 := blk_frozen KM5.out 0; have pm5 : w5.cell? ⟨mb, 0, none⟩ = some (.slice Aa s.length ca) := (blk_cell KM5.out 0).trans rfl; clear ho hb hat hg)
        refine hK.out _ _ ?_ (fun hHeld => ?_)
        · (first | exact sb_cells HX.out HT.out | exact sb_cells (blk_alloc HX.out _) (blk_alloc HT.out _) | exact sb_cells KX5.out KT5.out | exact sb_cells (blk_far KX5.out (Ne.symm hmx) _) (blk_far KT5.out (show W.heap.size ≠ mb by omega) _))
        focus clear hK K; try simp only [Act.put, List.setIfInBounds_toArray, List.set_cons_zero, List.set_cons_succ]
        iterate 2 ((first | refine tk8 ?_ (by decide +kernel) (by rfl) (fun _ _ _ => id) ?_ (by assumption) ?_ | refine tk9 ?_ (by decide +kernel) (by rfl) (fun _ _ _ => id) ?_ (by assumption) ?_); (rotate_left 1); (focus (intro w_ hSw; (try dsimp only at hSw); go_simp; all_goals (with_reducible rfl); done)); focus try simp only [Act.put, List.setIfInBounds_toArray, List.set_cons_zero, List.set_cons_succ])
        refine wpAnyH_ready (rs := [10]) (by kernel_rfl) (by simp) (ac10 (fun K hK => ?_) (AllReadyH.nil))
        focus go_simp
        refine hK.out _ _ ?_ (fun hHeld => ?_)
        · (first | exact sb_cells HX.out HT.out | exact sb_cells (blk_alloc HX.out _) (blk_alloc HT.out _) | exact sb_cells KX5.out KT5.out | exact sb_cells (blk_far KX5.out (Ne.symm hmx) _) (blk_far KT5.out (show W.heap.size ≠ mb by omega) _))
        focus clear hK K; try simp only [Act.put, List.setIfInBounds_toArray, List.set_cons_zero, List.set_cons_succ]
        refine wpAnyH_done (by kernel_rfl) ?_ _; rotate_left 1
        all_goals
          go_wp2
          refine bodyPost_end (v := .tuple #[]) (by simp [results, Tryd.results24, go_sem]) rfl ⟨rfl, .slice a1 (s.length + 1) k1, ?_⟩
          rw [atomF, if_neg hj, if_pos hf]
          exact cc_fin hmx h0m KX5.out KM5.out HO5.out HB5.out HA5.out HG5.out (((Below.refl _ _).alloc (Nat.le_refl _) O).trans (hwx2.out.mono (by simp)))
      · replace hwx := hwx.drew
        have HN := Lib.hid (Kd.N_below (Kd.N_alloc HS.out.2.2.1 O) hwx)
        have HBx := Lib.hid ((HS.out.2.2.2.alloc HS.out.2.2.2.size O).trans (hwx.mono (HS.out.2.2.2.alloc HS.out.2.2.2.size O).size))
        have HX := Lib.hid (blk_below kx hwx)
        have HT := Lib.hid (blk_below kn hwx)
        have HM := Lib.hid (blk_below km hwx)
        have hwx2 := Lib.hid hwx
        have pm : wx.drew.cell? ⟨mb, 0, none⟩ = some (.slice Aa s.length ca) := (blk_cell HM.out 0).trans rfl
        have pm2 : wx.cell? ⟨mb, 0, none⟩ = some (.slice Aa s.length ca) := pm
        have pma : ∀ o, (wx.drew.alloc o).cell? ⟨mb, 0, none⟩ = some (.slice Aa s.length ca) := fun o => (blk_cell (blk_alloc (o' := o) (w := wx.drew) HM.out) 0).trans rfl
        have zmw : mb < wx.heap.size := blk_lt HM.out
        clear kx km kn px hwx
        have hown := Lib.hid (fun k (hk : (Value.slice Aa s.length ca).ownBlock = some k) => Kd.N_lt HS.out.2.2.1 k hk)
        have HFK := Lib.hid (show Kd.FK k24 wx.drew (fun k => P k ∧ k < w0.heap.size) x [.int .i64 x.f0, .string x.f1, .int .i64 x.f2, .slice B x.f3.length d] from k24_mkF wx.drew _ x hd (Kd.F_step (Kd.F_bound HC.out) (fun k hk _ => HBx.out.block k hk.2)))
        have hnx : some bx ≠ (Value.slice Aa s.length ca).ownBlock := Kd.N_ne HN.out HX.out (by decide)
        have hnm : some mb ≠ (Value.slice Aa s.length ca).ownBlock := Kd.N_ne HN.out HM.out (by decide)
        have hnt : some W.heap.size ≠ (Value.slice Aa s.length ca).ownBlock := fun he => Nat.lt_irrefl _ (hown.out _ he.symm)
        have HNX := Lib.hid hnx
        have HNM := Lib.hid hnm
        have HNT := Lib.hid hnt
        clear hnx hnm hnt
        have hl1 : ((s.length : Int) < ((s.length + 1 : Nat) : Int)) = True := eq_true (by omega)
        have hl0 : (0 ≤ (s.length : Int)) = True := eq_true (by omega)
        refine wp_region_held_drew (S := (fun w' => w'.cell? ⟨bx, 0, none⟩ = some (.pointer (some ⟨mb, 0, none⟩)) ∧ w'.cell? ⟨W.heap.size, 0, none⟩ = some (.int .i64 x.f0) ∧ w'.cell? ⟨W.heap.size, 1, none⟩ = some (.string x.f1) ∧ w'.cell? ⟨W.heap.size, 2, none⟩ = some (.int .i64 x.f2) ∧ w'.cell? ⟨W.heap.size, 3, none⟩ = some (.slice B x.f3.length d))) (by kernel_rfl) ?_ (fun hHeld => ?_)
        · (first | exact sb_cells HX.out HT.out | exact sb_cells (blk_alloc HX.out _) (blk_alloc HT.out _) | exact sb_cells KX5.out KT5.out | exact sb_cells (blk_far KX5.out (Ne.symm hmx) _) (blk_far KT5.out (show W.heap.size ≠ mb by omega) _))
        iterate 4 ((first | refine tk0 ?_ (by decide +kernel) (by rfl) (fun _ _ _ => id) ?_ (by assumption) ?_ | refine tk1 ?_ (by decide +kernel) (by rfl) (fun _ _ _ => id) ?_ (by assumption) ?_ | refine tk2 ?_ (by decide +kernel) (by rfl) (fun _ _ _ => id) ?_ (by assumption) ?_ | refine tk4 ?_ (by decide +kernel) (by rfl) (fun _ _ _ => id) ?_ (by assumption) ?_); (rotate_left 1); (focus (intro w_ hSw; (try dsimp only at hSw); go_simp; all_goals (with_reducible rfl); done)); focus try simp only [Act.put, List.setIfInBounds_toArray, List.set_cons_zero, List.set_cons_succ])
        refine wpAnyH_ready (rs := [3, 6]) (by kernel_rfl) (by simp) (ac3 (fun K hK => ?_) (ac6 (fun K hK => ?_) (AllReadyH.nil)))
        focus go_simp
        refine hK.out _ _ ?_ (fun hHeld => ?_)
        · (first | exact sb_cells HX.out HT.out | exact sb_cells (blk_alloc HX.out _) (blk_alloc HT.out _) | exact sb_cells KX5.out KT5.out | exact sb_cells (blk_far KX5.out (Ne.symm hmx) _) (blk_far KT5.out (show W.heap.size ≠ mb by omega) _))
        focus clear hK K; try simp only [Act.put, List.setIfInBounds_toArray, List.set_cons_zero, List.set_cons_succ]
        refine wpAnyH_ready (rs := [5, 6]) (by kernel_rfl) (by simp) (ac5 (fun K hK => ?_) (ac6 (fun K hK => ?_) (AllReadyH.nil)))
        focus go_simp
        refine hK.out _ _ ?_ (fun hHeld => ?_)
        · (first | exact sb_cells HX.out HT.out | exact sb_cells (blk_alloc HX.out _) (blk_alloc HT.out _) | exact sb_cells KX5.out KT5.out | exact sb_cells (blk_far KX5.out (Ne.symm hmx) _) (blk_far KT5.out (show W.heap.size ≠ mb by omega) _))
        focus clear hK K; try simp only [Act.put, List.setIfInBounds_toArray, List.set_cons_zero, List.set_cons_succ]
        refine wpAnyH_ready (rs := [6]) (by kernel_rfl) (by simp) (ac6 (fun K hK => ?_) (AllReadyH.nil))
        focus go_simp
        refine hK.out _ _ ?_ (fun hHeld => ?_)
        · (first | exact sb_cells HX.out HT.out | exact sb_cells (blk_alloc HX.out _) (blk_alloc HT.out _) | exact sb_cells KX5.out KT5.out | exact sb_cells (blk_far KX5.out (Ne.symm hmx) _) (blk_far KT5.out (show W.heap.size ≠ mb by omega) _))
        focus clear hK K; try simp only [Act.put, List.setIfInBounds_toArray, List.set_cons_zero, List.set_cons_succ]
        refine wpAnyH_ready (rs := [7]) (by kernel_rfl) (by simp) (ac7 (fun K hK => ?_) (AllReadyH.nil))
        focus (refine Kd.N_append_step k24 (w0 := w0) (W := wx.drew) w0.heap.size rfl (.tmp 18) (.tmp 21) 22 24 (.agg #[(.int .i64 0), (.string ⟨#[]⟩), (.int .i64 0), (.slice none 0 0)]) 56 rfl Tryd.underlying22 infoT rfl (by decide) (by omega) (.slice Aa s.length ca) s z24 [.int .i64 0, .string ⟨#[]⟩, .int .i64 0, .slice none 0 0] (fun k => (P k ∨ w0.heap.size ≤ k) ∧ k ≠ mb ∧ k ≠ bx) (fun k => False) rfl rfl (fk_zero _ _) ?hok ?hfr HN.out HBx.out HBx.out.size (by omega) ?_; (case hok => exact fun k hk => hk.elim); (case hfr => exact fun k hk => ⟨.inr (Nat.le_trans HBx.out.size hk), by have := blk_lt HM.out; omega, by have := blk_lt HX.out; omega⟩); intro v1 w5 ho hb hg hat; obtain ⟨g1, k1, rfl⟩ := n_form (n := s.length + 1) ho List.length_append (Nat.succ_pos _); have KX5 := Lib.hid (blk_grown HX.out hg HNX.out); have KT5 := Lib.hid (blk_grown HT.out hg HNT.out); have KM5 := Lib.hid (blk_grown HM.out hg HNM.out); have HO5 := Lib.hid ho; have HB5 := Lib.hid hb; have HA5 := Lib.hid hat; have HG5 := Lib.hid hg; have fm5 := blk_frozen KM5.out 0; have pm5 : w5.cell? ⟨mb, 0, none⟩ = some (.slice Aa s.length ca) := (blk_cell KM5.out 0).trans rfl; clear ho hb hat hg)
        refine hK.out _ _ ?_ (fun hHeld => ?_)
        · (first | exact sb_cells HX.out HT.out | exact sb_cells (blk_alloc HX.out _) (blk_alloc HT.out _) | exact sb_cells KX5.out KT5.out | exact sb_cells (blk_far KX5.out (Ne.symm hmx) _) (blk_far KT5.out (show W.heap.size ≠ mb by omega) _))
        focus clear hK K; try simp only [Act.put, List.setIfInBounds_toArray, List.set_cons_zero, List.set_cons_succ]
        iterate 2 ((first | refine tk8 ?_ (by decide +kernel) (by rfl) (fun _ _ _ => id) ?_ (by assumption) ?_ | refine tk9 ?_ (by decide +kernel) (by rfl) (fun _ _ _ => id) ?_ (by assumption) ?_); (rotate_left 1); (focus (intro w_ hSw; (try dsimp only at hSw); go_simp; all_goals (with_reducible rfl); done)); focus try simp only [Act.put, List.setIfInBounds_toArray, List.set_cons_zero, List.set_cons_succ])
        refine wpAnyH_ready (rs := [10]) (by kernel_rfl) (by simp) (ac10 (fun K hK => ?_) (AllReadyH.nil))
        focus go_simp
        refine hK.out _ _ ?_ (fun hHeld => ?_)
        · (first | exact sb_cells HX.out HT.out | exact sb_cells (blk_alloc HX.out _) (blk_alloc HT.out _) | exact sb_cells KX5.out KT5.out | exact sb_cells (blk_far KX5.out (Ne.symm hmx) _) (blk_far KT5.out (show W.heap.size ≠ mb by omega) _))
        focus clear hK K; try simp only [Act.put, List.setIfInBounds_toArray, List.set_cons_zero, List.set_cons_succ]
        refine wpAnyH_done (by kernel_rfl) ?_ _; rotate_left 1
        focus go_simp
        refine hK.out _ _ ?_ (fun hHeld => ?_)
        · (first | exact sb_cells HX.out HT.out | exact sb_cells (blk_alloc HX.out _) (blk_alloc HT.out _) | exact sb_cells KX5.out KT5.out | exact sb_cells (blk_far KX5.out (Ne.symm hmx) _) (blk_far KT5.out (show W.heap.size ≠ mb by omega) _))
        focus clear hK K; try simp only [Act.put, List.setIfInBounds_toArray, List.set_cons_zero, List.set_cons_succ]
        refine wpAnyH_ready (rs := [5]) (by kernel_rfl) (by simp) (ac5 (fun K hK => ?_) (AllReadyH.nil))
        focus go_simp
        refine hK.out _ _ ?_ (fun hHeld => ?_)
        · (first | exact sb_cells HX.out HT.out | exact sb_cells (blk_alloc HX.out _) (blk_alloc HT.out _) | exact sb_cells KX5.out KT5.out | exact sb_cells (blk_far KX5.out (Ne.symm hmx) _) (blk_far KT5.out (show W.heap.size ≠ mb by omega) _))
        focus clear hK K; try simp only [Act.put, List.setIfInBounds_toArray, List.set_cons_zero, List.set_cons_succ]
        refine wpAnyH_ready (rs := [7]) (by kernel_rfl) (by simp) (ac7 (fun K hK => ?_) (AllReadyH.nil))
        focus (refine Kd.N_append_step k24 (w0 := w0) (W := wx.drew) w0.heap.size rfl (.tmp 18) (.tmp 21) 22 24 (.agg #[(.int .i64 0), (.string ⟨#[]⟩), (.int .i64 0), (.slice none 0 0)]) 56 rfl Tryd.underlying22 infoT rfl (by decide) (by omega) (.slice Aa s.length ca) s z24 [.int .i64 0, .string ⟨#[]⟩, .int .i64 0, .slice none 0 0] (fun k => (P k ∨ w0.heap.size ≤ k) ∧ k ≠ mb ∧ k ≠ bx) (fun k => False) rfl rfl (fk_zero _ _) ?hok ?hfr HN.out HBx.out HBx.out.size (by omega) ?_; (case hok => exact fun k hk => hk.elim); (case hfr => exact fun k hk => ⟨.inr (Nat.le_trans HBx.out.size hk), by have := blk_lt HM.out; omega, by have := blk_lt HX.out; omega⟩); intro v1 w5 ho hb hg hat; obtain ⟨g1, k1, rfl⟩ := n_form (n := s.length + 1) ho List.length_append (Nat.succ_pos _); have KX5 := Lib.hid (blk_grown HX.out hg HNX.out); have KT5 := Lib.hid (blk_grown HT.out hg HNT.out); have KM5 := Lib.hid (blk_grown HM.out hg HNM.out); have HO5 := Lib.hid ho; have HB5 := Lib.hid hb; have HA5 := Lib.hid hat; have HG5 := Lib.hid hg; have fm5 := blk_frozen KM5.out 0; have pm5 : w5.cell? ⟨mb, 0, none⟩ = some (.slice Aa s.length ca) := (blk_cell KM5.out 0).trans rfl; clear ho hb hat hg)
        refine hK.out _ _ ?_ (fun hHeld => ?_)
        · (first | exact sb_cells HX.out HT.out | exact sb_cells (blk_alloc HX.out _) (blk_alloc HT.out _) | exact sb_cells KX5.out KT5.out | exact sb_cells (blk_far KX5.out (Ne.symm hmx) _) (blk_far KT5.out (show W.heap.size ≠ mb by omega) _))
        focus clear hK K; try simp only [Act.put, List.setIfInBounds_toArray, List.set_cons_zero, List.set_cons_succ]
        iterate 2 ((first | refine tk8 ?_ (by decide +kernel) (by rfl) (fun _ _ _ => id) ?_ (by assumption) ?_ | refine tk9 ?_ (by decide +kernel) (by rfl) (fun _ _ _ => id) ?_ (by assumption) ?_); (rotate_left 1); (focus (intro w_ hSw; (try dsimp only at hSw); go_simp; all_goals (with_reducible rfl); done)); focus try simp only [Act.put, List.setIfInBounds_toArray, List.set_cons_zero, List.set_cons_succ])
        refine wpAnyH_ready (rs := [10]) (by kernel_rfl) (by simp) (ac10 (fun K hK => ?_) (AllReadyH.nil))
        focus go_simp
        refine hK.out _ _ ?_ (fun hHeld => ?_)
        · (first | exact sb_cells HX.out HT.out | exact sb_cells (blk_alloc HX.out _) (blk_alloc HT.out _) | exact sb_cells KX5.out KT5.out | exact sb_cells (blk_far KX5.out (Ne.symm hmx) _) (blk_far KT5.out (show W.heap.size ≠ mb by omega) _))
        focus clear hK K; try simp only [Act.put, List.setIfInBounds_toArray, List.set_cons_zero, List.set_cons_succ]
        refine wpAnyH_done (by kernel_rfl) ?_ _; rotate_left 1
        focus go_simp
        refine hK.out _ _ ?_ (fun hHeld => ?_)
        · (first | exact sb_cells HX.out HT.out | exact sb_cells (blk_alloc HX.out _) (blk_alloc HT.out _) | exact sb_cells KX5.out KT5.out | exact sb_cells (blk_far KX5.out (Ne.symm hmx) _) (blk_far KT5.out (show W.heap.size ≠ mb by omega) _))
        focus clear hK K; try simp only [Act.put, List.setIfInBounds_toArray, List.set_cons_zero, List.set_cons_succ]
        refine wpAnyH_ready (rs := [3]) (by kernel_rfl) (by simp) (ac3 (fun K hK => ?_) (AllReadyH.nil))
        focus go_simp
        refine hK.out _ _ ?_ (fun hHeld => ?_)
        · (first | exact sb_cells HX.out HT.out | exact sb_cells (blk_alloc HX.out _) (blk_alloc HT.out _) | exact sb_cells KX5.out KT5.out | exact sb_cells (blk_far KX5.out (Ne.symm hmx) _) (blk_far KT5.out (show W.heap.size ≠ mb by omega) _))
        focus clear hK K; try simp only [Act.put, List.setIfInBounds_toArray, List.set_cons_zero, List.set_cons_succ]
        refine wpAnyH_ready (rs := [5]) (by kernel_rfl) (by simp) (ac5 (fun K hK => ?_) (AllReadyH.nil))
        focus go_simp
        refine hK.out _ _ ?_ (fun hHeld => ?_)
        · (first | exact sb_cells HX.out HT.out | exact sb_cells (blk_alloc HX.out _) (blk_alloc HT.out _) | exact sb_cells KX5.out KT5.out | exact sb_cells (blk_far KX5.out (Ne.symm hmx) _) (blk_far KT5.out (show W.heap.size ≠ mb by omega) _))
        focus clear hK K; try simp only [Act.put, List.setIfInBounds_toArray, List.set_cons_zero, List.set_cons_succ]
        refine wpAnyH_ready (rs := [7]) (by kernel_rfl) (by simp) (ac7 (fun K hK => ?_) (AllReadyH.nil))
        focus (refine Kd.N_append_step k24 (w0 := w0) (W := wx.drew) w0.heap.size rfl (.tmp 18) (.tmp 21) 22 24 (.agg #[(.int .i64 0), (.string ⟨#[]⟩), (.int .i64 0), (.slice none 0 0)]) 56 rfl Tryd.underlying22 infoT rfl (by decide) (by omega) (.slice Aa s.length ca) s z24 [.int .i64 0, .string ⟨#[]⟩, .int .i64 0, .slice none 0 0] (fun k => (P k ∨ w0.heap.size ≤ k) ∧ k ≠ mb ∧ k ≠ bx) (fun k => False) rfl rfl (fk_zero _ _) ?hok ?hfr HN.out HBx.out HBx.out.size (by omega) ?_; (case hok => exact fun k hk => hk.elim); (case hfr => exact fun k hk => ⟨.inr (Nat.le_trans HBx.out.size hk), by have := blk_lt HM.out; omega, by have := blk_lt HX.out; omega⟩); intro v1 w5 ho hb hg hat; obtain ⟨g1, k1, rfl⟩ := n_form (n := s.length + 1) ho List.length_append (Nat.succ_pos _); have KX5 := Lib.hid (blk_grown HX.out hg HNX.out); have KT5 := Lib.hid (blk_grown HT.out hg HNT.out); have KM5 := Lib.hid (blk_grown HM.out hg HNM.out); have HO5 := Lib.hid ho; have HB5 := Lib.hid hb; have HA5 := Lib.hid hat; have HG5 := Lib.hid hg; have fm5 := blk_frozen KM5.out 0; have pm5 : w5.cell? ⟨mb, 0, none⟩ = some (.slice Aa s.length ca) := (blk_cell KM5.out 0).trans rfl; clear ho hb hat hg)
        refine hK.out _ _ ?_ (fun hHeld => ?_)
        · (first | exact sb_cells HX.out HT.out | exact sb_cells (blk_alloc HX.out _) (blk_alloc HT.out _) | exact sb_cells KX5.out KT5.out | exact sb_cells (blk_far KX5.out (Ne.symm hmx) _) (blk_far KT5.out (show W.heap.size ≠ mb by omega) _))
        focus clear hK K; try simp only [Act.put, List.setIfInBounds_toArray, List.set_cons_zero, List.set_cons_succ]
        iterate 2 ((first | refine tk8 ?_ (by decide +kernel) (by rfl) (fun _ _ _ => id) ?_ (by assumption) ?_ | refine tk9 ?_ (by decide +kernel) (by rfl) (fun _ _ _ => id) ?_ (by assumption) ?_); (rotate_left 1); (focus (intro w_ hSw; (try dsimp only at hSw); go_simp; all_goals (with_reducible rfl); done)); focus try simp only [Act.put, List.setIfInBounds_toArray, List.set_cons_zero, List.set_cons_succ])
        refine wpAnyH_ready (rs := [10]) (by kernel_rfl) (by simp) (ac10 (fun K hK => ?_) (AllReadyH.nil))
        focus go_simp
        refine hK.out _ _ ?_ (fun hHeld => ?_)
        · (first | exact sb_cells HX.out HT.out | exact sb_cells (blk_alloc HX.out _) (blk_alloc HT.out _) | exact sb_cells KX5.out KT5.out | exact sb_cells (blk_far KX5.out (Ne.symm hmx) _) (blk_far KT5.out (show W.heap.size ≠ mb by omega) _))
        focus clear hK K; try simp only [Act.put, List.setIfInBounds_toArray, List.set_cons_zero, List.set_cons_succ]
        refine wpAnyH_done (by kernel_rfl) ?_ _; rotate_left 1
        all_goals
          have F6 := Lib.hid (cc_fin hmx h0m KX5.out KM5.out HO5.out HB5.out HA5.out HG5.out (((Below.refl _ _).alloc (Nat.le_refl _) O).trans (hwx2.out.mono (by simp))))
          clear KX5 KM5 HO5 HB5 HA5 HG5 fm5 pm5
          go_wp2_with (first | ((with_reducible refine gate_store (t := 24) (p := 25) (v := .tmp 19) rfl ?_); refine Hid.out ?_))
          refine Lib.hid ?_
          obtain ⟨c, hcl, hFK, hcc, hfr⟩ := Kd.N_elem F6.out.1.2.2.1 z24 (s.length : Int) (by omega) (by omega)
          refine Kd.N_store k24 (w0 := w0) w0.heap.size rfl rfl 24 (.tmp 25) (.tmp 19) rfl 24 (g := g1) (n := s.length + 1) (cap := k1) (s.length : Int) 0 (s ++ [z24]) x (.agg #[.int .i64 x.f0, .string x.f1, .int .i64 x.f2, .slice B x.f3.length d]) [.int .i64 x.f0, .string x.f1, .int .i64 x.f2, .slice B x.f3.length d] c (fun k => (P k ∨ w0.heap.size ≤ k) ∧ k ≠ mb ∧ k ≠ bx) (fun k => P k ∧ k < w0.heap.size) rfl ?hoff rfl rfl (by kernel_rfl) ?h1 F6.out.1.2.2.1 (by omega) (by omega) hcl hcc (Nat.le_refl _) ?hM ?hokp F6.out.1.2.2.2 ?_
          case hoff => first | rfl | (simp; done)
          case h1 => intro q hq; simp only [List.mem_cons, List.not_mem_nil, or_false] at hq; rcases hq with rfl | rfl | rfl | rfl <;> rfl
          case hM =>
            have hd4 : c.drop 4 = [] := List.drop_eq_nil_of_le (Nat.le_of_eq hcl)
            rw [List.take_zero, List.nil_append, show (0 + [Value.int .i64 x.f0, .string x.f1, .int .i64 x.f2, .slice B x.f3.length d].length) = 4 from rfl, hd4, List.append_nil]
            exact k24_mkF _ _ x hd (Kd.F_step (Kd.F_bound HC.out) (fun k hk _ => F6.out.1.2.2.2.block k hk.2))
          case hokp => exact fun k hk => ⟨⟨.inl hk.1, by have := hk.2; omega, by have := hk.2; omega⟩, by have := Kd.N_base F6.out.1.2.2.1 g1 rfl; have := hk.2; omega⟩
          intro w7 hn7 hb7 hg7
          rw [Int.toNat_natCast, set_last] at hn7
          have F7 := Lib.hid (cc_fin2 hmx (show (Value.slice (some ⟨g1, 0, none⟩) (s.length + 1) k1).ownBlock = some g1 from rfl) F6.out hn7 hb7 hg7)
          clear hn7 hb7 hg7 hfr hcc hFK hcl
          go_wp2
          refine bodyPost_end (v := .tuple #[]) (by simp [results, Tryd.results24, go_sem]) rfl ⟨rfl, .slice (some ⟨g1, 0, none⟩) (s.length + 1) k1, ?_⟩
          rw [atomF, if_neg hj, if_pos hf]
          exact F7.out
    · have hf2 : (findT s x 0 < 0) = False := eq_false hf
      go_enter Tryd.func24, Tryd.ntmps24
      go_wp2_with (first | (go_at_call 25; refine (joins_any _ _).mono ?_; rw [hj2]; rintro e w2 ⟨rfl, rfl⟩) | (go_at_call 26; refine AT.out.mono ?_; rintro e w2 ⟨rfl, hb2⟩; have HB2 := Lib.hid hb2; clear hb2))
      refine bodyPost_end (v := .tuple #[]) (by simp [results, Tryd.results24, go_sem]) rfl ⟨rfl, .slice Aa s.length ca, ?_⟩
      rw [atomF, if_neg hj, if_neg (by rw [hf2]; exact id)]
      exact cc_same HS.out O HB2.out
end Go.Proofs.YthckboogibhjaaaDoor.Trm
