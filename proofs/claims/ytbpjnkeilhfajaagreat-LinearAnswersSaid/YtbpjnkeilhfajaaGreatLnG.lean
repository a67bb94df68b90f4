import Derived.Test.YtbpjnkeilhfajaaGreatTk
import Derived.Test.YtbpjnkeilhfajaaGreatLnD
section
/- linear.weighed at its two closures. -/
namespace Go.Proofs
theorem Zp1i {p q : Prop} (hq : q) (h : p = q := by first | (simp only [Act.put, List.setIfInBounds_toArray, List.set_cons_zero, List.set_cons_succ]; done) | (simp only [Act.put, List.setIfInBounds_toArray, List.set_cons_zero, List.set_cons_succ]; rfl) | rfl) : p := Eq.mpr h hq
theorem Z1i0 {p : Prop} (h : p := by kernel_rfl) : p := h
theorem Z1i1 {p : Prop} (h : p := by (first | exact ⟨YW.out, by simp [go_sem], by simp [go_sem], (HBR.out.alloc HBR.out.size _).drew⟩ | exact hHeld)) : p := h
theorem Z1i2 {p : Prop} (h : p := by exact ⟨kcell hb2 hHeld.1, kcell hb2 hHeld.2.1, kcell hb2 hHeld.2.2.1, hHeld.2.2.2.trans (hb2.mono hHeld.2.2.2.size)⟩) : p := h
theorem Z1i3 {p : Prop} (h : p := by (refine (must64b_no _ _).mono ?_; rintro e w2 ⟨rfl, hb2⟩; exact ⟨rfl, rfl, hHeld.2.2.2.trans (hb2.mono hHeld.2.2.2.size)⟩)) : p := h
end Go.Proofs
namespace Go.Proofs.YtbpjnkeilhfajaaGreat.Ln
open Go.RowKit Go.Proofs.YtbpjnkeilhfajaaGreat.Num Go.Proofs.YtbpjnkeilhfajaaGreat.Given Go.Proofs.YtbpjnkeilhfajaaGreat.Lin Go.Proofs.YtbpjnkeilhfajaaGreatW.PrintWords
set_option linter.unusedVariables false
set_option linter.unusedSimpArgs false
theorem okI_is {x : Int} (h : In64 x) : okI x = some x := if_pos h
theorem okI_no {x : Int} (h : ¬ In64 x) : okI x = none := if_neg h
theorem add_ok {a b : Int} (ha : In64 a) (hb : In64 b) (h : In64 (a + b)) (w : World) :
  Calls Tryz.prog 94 #[.int .i64 a, .int .i64 b] w fun e w' => e = .returned (.tuple #[.int .i64 (a + b), .bool true]) ∧ Below w.heap.size w w' := by
 have := Add_any a b w ha hb
 rwa [show fitp (a + b) = (a + b, true) from if_pos h] at this
theorem add_no {a b : Int} (ha : In64 a) (hb : In64 b) (h : ¬ In64 (a + b)) (w : World) :
  Calls Tryz.prog 94 #[.int .i64 a, .int .i64 b] w fun e w' => e = .returned (.tuple #[.int .i64 0, .bool false]) ∧ Below w.heap.size w w' := by
 have := Add_any a b w ha hb
 rwa [show fitp (a + b) = (0, false) from if_neg h] at this
theorem mul_ok {a b : Int} (ha : In64 a) (hb : In64 b) (h : In64 (a * b)) (w : World) :
  Calls Tryz.prog 95 #[.int .i64 a, .int .i64 b] w fun e w' => e = .returned (.tuple #[.int .i64 (a * b), .bool true]) ∧ Below w.heap.size w w' := by
 have := Mul_any a b w ha hb
 rwa [show fitp (a * b) = (a * b, true) from if_pos h] at this
theorem mul_no {a b : Int} (ha : In64 a) (hb : In64 b) (h : ¬ In64 (a * b)) (w : World) :
  Calls Tryz.prog 95 #[.int .i64 a, .int .i64 b] w fun e w' => e = .returned (.tuple #[.int .i64 0, .bool false]) ∧ Below w.heap.size w w' := by
 have := Mul_any a b w ha hb
 rwa [show fitp (a * b) = (0, false) from if_neg h] at this
theorem must64b_ok (p : Int) (w : World) : Calls Tryz.prog 93 #[.int .i64 p, .bool true] w fun e w' => e = .returned (.int .i64 p) ∧ Below w.heap.size w w' :=
 (must64_ok p w).mono (by rintro e w' ⟨rfl, rfl⟩; exact ⟨rfl, Below.refl _ _⟩)
theorem must64b_no (p : Int) (w : World) : Calls Tryz.prog 93 #[.int .i64 p, .bool false] w fun e w' => e = .panicked LargeL ∧ Below w.heap.size w w' :=
 (must64_no p w).mono (by rintro e w' ⟨rfl, rfl⟩; exact ⟨rfl, Below.refl _ _⟩)
def WeighEnd (o : Option Int) (e : Ending) : Prop := match o with
 | some s => e = .returned (.int .i64 s)
 | none => e = .panicked LargeL
set_option maxHeartbeats 8000000 in
set_option maxRecDepth 100000 in
theorem weighC (f : S40 → Int) (l : List S40) (ws : List Int) (A A' : Option Addr) (c c' : Nat) (v : Value) (w0 w : World) (hC : Kd.C k40 w0 A l.length l) (hc : l.length ≤ c) (hW : (Kd.int .i64).C w0 A' ws.length ws) (hc' : ws.length ≤ c') (hB : Below w0.heap.size w0 w) (hl : l.length = ws.length)
  (hf : ∀ x, x ∈ l → In64 (f x)) (hws : ∀ x, x ∈ ws → In64 x)
  (H : ∀ x, x ∈ l → ∀ (B : Option Addr) (d : Nat) (W : World), (Kd.int .i64).C w0 B x.f0.length x.f0 → x.f0.length ≤ d → Below w0.heap.size w0 W → Below w.heap.size w W → Calls Tryz.prog 48 #[.agg #[.slice B x.f0.length d, .int .i64 x.f1], v] W fun e w' => e = .returned (.int .i64 (f x)) ∧ Below W.heap.size W w') :
  Calls Tryz.prog 47 #[.slice A l.length c, .slice A' ws.length c', .func (.func 48) #[] #[v]] w fun e w' => WeighEnd (weighF ws (l.map f) 0) e ∧ Below w.heap.size w w' := by
 obtain ⟨r, hr⟩ : ∃ r, weighF ws (l.map f) 0 = r := ⟨_, rfl⟩
 rw [hr]
 have HC := Lib.hid hC
 have HW := Lib.hid hW
 have HBW0 := Lib.hid hB
 have HX := Lib.hid H
 have HF := Lib.hid hf
 have HWS := Lib.hid hws
 have HL := Lib.hid hl
 have HR := Lib.hid hr
 clear hC hW hB H hf hws hl hr
 go_enter Tryz.func47, Tryz.ntmps47
 go_wp2
 go_loopw [11, 6] (fun v s6 wr => ∃ (j : Nat) (s : Int), j ≤ l.length ∧ v = .int .i64 j ∧ s6 = .int .i64 s ∧ In64 s ∧ weighF (ws.drop j) ((l.drop j).map f) s = r ∧ Below w.heap.size w wr) (fun v _ _ => l.length - (intOf v).toNat)
 case atStart => exact ⟨0, 0, Nat.zero_le _, rfl, rfl, ⟨by decide, by decide⟩, by simp only [List.drop_zero]; exact HR.out, Below.refl _ _⟩
 case round =>
  obtain ⟨j, s, hj, rfl, rfl, hs, hL, hbr⟩ := hrel
  by_cases hjl : j < l.length
  ·have hmax := Kd.C_max HC.out
   have hjw : j < ws.length := by rw [← HL.out]; exact hjl
   obtain ⟨ad, B, d, e, x0, x1, l', C'⟩ := el_R HC.out hjl
   obtain ⟨aw, e', y0⟩ := el_I HW.out hjw
   have hbw : Below w0.heap.size w0 wr := HBW0.out.trans (hbr.mono HBW0.out.size)
   have hmem : l[j] ∈ l := List.getElem_mem hjl
   have hfx := HF.out _ hmem
   have hwj := HWS.out _ (List.getElem_mem hjw)
   rw [List.drop_eq_getElem_cons hjl, List.drop_eq_getElem_cons hjw, List.map_cons, weighF] at hL
   generalize l[j] = x at *
   generalize ws[j] = wj at *
   replace x0 := (hbw.cell (World.block_lt_of_cell? w0 _ x0)).trans x0
   replace x1 := (hbw.cell (World.block_lt_of_cell? w0 _ x1)).trans x1
   have YW := Lib.hid (show ((wr.alloc (.cells #[.slice B x.f0.length d, .int .i64 x.f1] 40)).drew).cell? (aw.add j) = some (.int .i64 wj) from kcell ((Below.refl wr.heap.size wr).alloc (Nat.le_refl _) _).drew ((hbw.cell (World.block_lt_of_cell? w0 _ y0)).trans y0))
   subst e
   subst e'
   have EW := Lib.hid (wrapj (succ_lt hjl hmax))
   have HBR := Lib.hid hbr
   have HCx := Lib.hid C'
   clear hbr hbw hmax y0 C'
   by_cases h1 : In64 (wj * f x)
   ·rw [okI_is h1, Option.bind_some] at hL
    by_cases h2 : In64 (s + wj * f x)
    ·rw [okI_is h2, Option.bind_some] at hL
     have HLL := Lib.hid hL
     clear hL
     go_wp2_with fail
     refine wp_region_held_drew (S := (fun w' => w'.cell? (aw.add j) = some (.int .i64 wj) ∧ w'.cell? ⟨wr.heap.size, 0, none⟩ = some (.slice B x.f0.length d) ∧ w'.cell? ⟨wr.heap.size, 1, none⟩ = some (.int .i64 x.f1) ∧ Below w.heap.size w w')) Z1i0 ?_ (fun hHeld => ?_)
     ·exact Z1i1
     iterate 7 (first | refine tk0.go ?_ | refine tk1.go ?_ | refine tk2.go ?_ | refine tk3.go ?_ | refine tk4.go ?_ | refine tk5.go ?_ | refine tk6.go ?_)
     refine wpAnyH_ready (rs := [7]) Z1i0 (by simp) (ac7 (fun K hK => ?_) (AllReadyH.nil))
     focus go_simp
     focus (refine (HX.out x hmem B d _ HCx.out l' (HBW0.out.trans (hHeld.2.2.2.mono HBW0.out.size)) hHeld.2.2.2).mono ?_; rintro e w2 ⟨rfl, hb2⟩)
     focus try simp only []
     refine hK.out _ _ ?_ (fun hHeld => ?_)
     ·exact Z1i2
     focus (clear hK K; refine Zp1i ?_)
     refine wpAnyH_ready (rs := [8]) Z1i0 (by simp) (ac8 (fun K hK => ?_) (AllReadyH.nil))
     focus go_simp
     focus (refine (mul_ok hwj hfx h1 _).mono ?_; rintro e w2 ⟨rfl, hb2⟩)
     focus try simp only []
     refine hK.out _ _ ?_ (fun hHeld => ?_)
     ·exact Z1i2
     focus (clear hK K; refine Zp1i ?_)
     iterate 2 (first | refine tk9.go ?_ | refine tk10.go ?_)
     refine wpAnyH_ready (rs := [11]) Z1i0 (by simp) (ac11 (fun K hK => ?_) (AllReadyH.nil))
     focus go_simp
     focus (refine (must64b_ok _ _).mono ?_; rintro e w2 ⟨rfl, hb2⟩)
     focus try simp only []
     refine hK.out _ _ ?_ (fun hHeld => ?_)
     ·exact Z1i2
     focus (clear hK K; refine Zp1i ?_)
     refine wpAnyH_ready (rs := [12]) Z1i0 (by simp) (ac12 (fun K hK => ?_) (AllReadyH.nil))
     focus go_simp
     focus (refine (add_ok hs h1 h2 _).mono ?_; rintro e w2 ⟨rfl, hb2⟩)
     focus try simp only []
     refine hK.out _ _ ?_ (fun hHeld => ?_)
     ·exact Z1i2
     focus (clear hK K; refine Zp1i ?_)
     iterate 2 (first | refine tk13.go ?_ | refine tk14.go ?_)
     refine wpAnyH_ready (rs := [15]) Z1i0 (by simp) (ac15 (fun K hK => ?_) (AllReadyH.nil))
     focus go_simp
     focus (refine (must64b_ok _ _).mono ?_; rintro e w2 ⟨rfl, hb2⟩)
     focus try simp only []
     refine hK.out _ _ ?_ (fun hHeld => ?_)
     ·exact Z1i2
     focus (clear hK K; refine Zp1i ?_)
     refine tk16.go ?_
     refine wpAnyH_done Z1i0 ?_ _; rotate_left 1
     all_goals
      go_wp2
      refine ⟨⟨j + 1, s + wj * f x, hjl, congrArg (Value.int .i64) EW.out, rfl, h2, HLL.out, hHeld.2.2.2⟩, ?_⟩
      rw [EW.out]
      simp only [intOf, Int.toNat_natCast]
      exact meas_lt hjl
    ·rw [okI_no h2, Option.bind_none] at hL
     obtain rfl : r = none := hL.symm
     clear hL
     go_wp2_with fail
     refine wp_region_held_drew (S := (fun w' => w'.cell? (aw.add j) = some (.int .i64 wj) ∧ w'.cell? ⟨wr.heap.size, 0, none⟩ = some (.slice B x.f0.length d) ∧ w'.cell? ⟨wr.heap.size, 1, none⟩ = some (.int .i64 x.f1) ∧ Below w.heap.size w w')) Z1i0 ?_ (fun hHeld => ?_)
     ·exact Z1i1
     iterate 7 (first | refine tk0.go ?_ | refine tk1.go ?_ | refine tk2.go ?_ | refine tk3.go ?_ | refine tk4.go ?_ | refine tk5.go ?_ | refine tk6.go ?_)
     refine wpAnyH_ready (rs := [7]) Z1i0 (by simp) (ac7 (fun K hK => ?_) (AllReadyH.nil))
     focus go_simp
     focus (refine (HX.out x hmem B d _ HCx.out l' (HBW0.out.trans (hHeld.2.2.2.mono HBW0.out.size)) hHeld.2.2.2).mono ?_; rintro e w2 ⟨rfl, hb2⟩)
     focus try simp only []
     refine hK.out _ _ ?_ (fun hHeld => ?_)
     ·exact Z1i2
     focus (clear hK K; refine Zp1i ?_)
     refine wpAnyH_ready (rs := [8]) Z1i0 (by simp) (ac8 (fun K hK => ?_) (AllReadyH.nil))
     focus go_simp
     focus (refine (mul_ok hwj hfx h1 _).mono ?_; rintro e w2 ⟨rfl, hb2⟩)
     focus try simp only []
     refine hK.out _ _ ?_ (fun hHeld => ?_)
     ·exact Z1i2
     focus (clear hK K; refine Zp1i ?_)
     iterate 2 (first | refine tk9.go ?_ | refine tk10.go ?_)
     refine wpAnyH_ready (rs := [11]) Z1i0 (by simp) (ac11 (fun K hK => ?_) (AllReadyH.nil))
     focus go_simp
     focus (refine (must64b_ok _ _).mono ?_; rintro e w2 ⟨rfl, hb2⟩)
     focus try simp only []
     refine hK.out _ _ ?_ (fun hHeld => ?_)
     ·exact Z1i2
     focus (clear hK K; refine Zp1i ?_)
     refine wpAnyH_ready (rs := [12]) Z1i0 (by simp) (ac12 (fun K hK => ?_) (AllReadyH.nil))
     focus go_simp
     focus (refine (add_no hs h1 h2 _).mono ?_; rintro e w2 ⟨rfl, hb2⟩)
     focus try simp only []
     refine hK.out _ _ ?_ (fun hHeld => ?_)
     ·exact Z1i2
     focus (clear hK K; refine Zp1i ?_)
     iterate 2 (first | refine tk13.go ?_ | refine tk14.go ?_)
     refine wpAnyH_ready (rs := [15]) Z1i0 (by simp) (ac15 (fun K hK => ?_) (AllReadyH.nil))
     focus go_simp
     ·exact Z1i3
   ·rw [okI_no h1, Option.bind_none] at hL
    obtain rfl : r = none := hL.symm
    clear hL
    go_wp2_with fail
    refine wp_region_held_drew (S := (fun w' => w'.cell? (aw.add j) = some (.int .i64 wj) ∧ w'.cell? ⟨wr.heap.size, 0, none⟩ = some (.slice B x.f0.length d) ∧ w'.cell? ⟨wr.heap.size, 1, none⟩ = some (.int .i64 x.f1) ∧ Below w.heap.size w w')) Z1i0 ?_ (fun hHeld => ?_)
    ·exact Z1i1
    iterate 7 (first | refine tk0.go ?_ | refine tk1.go ?_ | refine tk2.go ?_ | refine tk3.go ?_ | refine tk4.go ?_ | refine tk5.go ?_ | refine tk6.go ?_)
    refine wpAnyH_ready (rs := [7]) Z1i0 (by simp) (ac7 (fun K hK => ?_) (AllReadyH.nil))
    focus go_simp
    focus (refine (HX.out x hmem B d _ HCx.out l' (HBW0.out.trans (hHeld.2.2.2.mono HBW0.out.size)) hHeld.2.2.2).mono ?_; rintro e w2 ⟨rfl, hb2⟩)
    focus try simp only []
    refine hK.out _ _ ?_ (fun hHeld => ?_)
    ·exact Z1i2
    focus (clear hK K; refine Zp1i ?_)
    refine wpAnyH_ready (rs := [8]) Z1i0 (by simp) (ac8 (fun K hK => ?_) (AllReadyH.nil))
    focus go_simp
    focus (refine (mul_no hwj hfx h1 _).mono ?_; rintro e w2 ⟨rfl, hb2⟩)
    focus try simp only []
    refine hK.out _ _ ?_ (fun hHeld => ?_)
    ·exact Z1i2
    focus (clear hK K; refine Zp1i ?_)
    iterate 2 (first | refine tk9.go ?_ | refine tk10.go ?_)
    refine wpAnyH_ready (rs := [11]) Z1i0 (by simp) (ac11 (fun K hK => ?_) (AllReadyH.nil))
    focus go_simp
    ·exact Z1i3
  ·have hjj : j = l.length := by omega
   subst hjj
   rw [List.drop_length, show ws.drop l.length = [] by rw [HL.out, List.drop_length], show weighF [] (([] : List S40).map f) s = some s from rfl] at hL
   obtain rfl : r = some s := hL.symm
   have HBR := Lib.hid hbr
   clear hL hbr
   go_wp2
   go_ret
   exact ⟨rfl, HBR.out⟩
set_option maxHeartbeats 8000000 in
set_option maxRecDepth 100000 in
theorem weighK (f : S40 → Int) (l : List S40) (ws : List Int) (A A' : Option Addr) (c c' : Nat) (w0 w : World) (hC : Kd.C k40 w0 A l.length l) (hc : l.length ≤ c) (hW : (Kd.int .i64).C w0 A' ws.length ws) (hc' : ws.length ≤ c') (hB : Below w0.heap.size w0 w) (hl : l.length = ws.length)
  (hf : ∀ x, x ∈ l → In64 (f x)) (hws : ∀ x, x ∈ ws → In64 x)
  (H : ∀ x, x ∈ l → ∀ (B : Option Addr) (d : Nat) (W : World), (Kd.int .i64).C w0 B x.f0.length x.f0 → x.f0.length ≤ d → Below w0.heap.size w0 W → Below w.heap.size w W → Calls Tryz.prog 49 #[.agg #[.slice B x.f0.length d, .int .i64 x.f1]] W fun e w' => e = .returned (.int .i64 (f x)) ∧ Below W.heap.size W w') :
  Calls Tryz.prog 47 #[.slice A l.length c, .slice A' ws.length c', .func (.func 49) #[] #[]] w fun e w' => WeighEnd (weighF ws (l.map f) 0) e ∧ Below w.heap.size w w' := by
 obtain ⟨r, hr⟩ : ∃ r, weighF ws (l.map f) 0 = r := ⟨_, rfl⟩
 rw [hr]
 have HC := Lib.hid hC
 have HW := Lib.hid hW
 have HBW0 := Lib.hid hB
 have HX := Lib.hid H
 have HF := Lib.hid hf
 have HWS := Lib.hid hws
 have HL := Lib.hid hl
 have HR := Lib.hid hr
 clear hC hW hB H hf hws hl hr
 go_enter Tryz.func47, Tryz.ntmps47
 go_wp2
 go_loopw [11, 6] (fun v s6 wr => ∃ (j : Nat) (s : Int), j ≤ l.length ∧ v = .int .i64 j ∧ s6 = .int .i64 s ∧ In64 s ∧ weighF (ws.drop j) ((l.drop j).map f) s = r ∧ Below w.heap.size w wr) (fun v _ _ => l.length - (intOf v).toNat)
 case atStart => exact ⟨0, 0, Nat.zero_le _, rfl, rfl, ⟨by decide, by decide⟩, by simp only [List.drop_zero]; exact HR.out, Below.refl _ _⟩
 case round =>
  obtain ⟨j, s, hj, rfl, rfl, hs, hL, hbr⟩ := hrel
  by_cases hjl : j < l.length
  ·have hmax := Kd.C_max HC.out
   have hjw : j < ws.length := by rw [← HL.out]; exact hjl
   obtain ⟨ad, B, d, e, x0, x1, l', C'⟩ := el_R HC.out hjl
   obtain ⟨aw, e', y0⟩ := el_I HW.out hjw
   have hbw : Below w0.heap.size w0 wr := HBW0.out.trans (hbr.mono HBW0.out.size)
   have hmem : l[j] ∈ l := List.getElem_mem hjl
   have hfx := HF.out _ hmem
   have hwj := HWS.out _ (List.getElem_mem hjw)
   rw [List.drop_eq_getElem_cons hjl, List.drop_eq_getElem_cons hjw, List.map_cons, weighF] at hL
   generalize l[j] = x at *
   generalize ws[j] = wj at *
   replace x0 := (hbw.cell (World.block_lt_of_cell? w0 _ x0)).trans x0
   replace x1 := (hbw.cell (World.block_lt_of_cell? w0 _ x1)).trans x1
   have YW := Lib.hid (show ((wr.alloc (.cells #[.slice B x.f0.length d, .int .i64 x.f1] 40)).drew).cell? (aw.add j) = some (.int .i64 wj) from kcell ((Below.refl wr.heap.size wr).alloc (Nat.le_refl _) _).drew ((hbw.cell (World.block_lt_of_cell? w0 _ y0)).trans y0))
   subst e
   subst e'
   have EW := Lib.hid (wrapj (succ_lt hjl hmax))
   have HBR := Lib.hid hbr
   have HCx := Lib.hid C'
   clear hbr hbw hmax y0 C'
   by_cases h1 : In64 (wj * f x)
   ·rw [okI_is h1, Option.bind_some] at hL
    by_cases h2 : In64 (s + wj * f x)
    ·rw [okI_is h2, Option.bind_some] at hL
     have HLL := Lib.hid hL
     clear hL
     go_wp2_with fail
     refine wp_region_held_drew (S := (fun w' => w'.cell? (aw.add j) = some (.int .i64 wj) ∧ w'.cell? ⟨wr.heap.size, 0, none⟩ = some (.slice B x.f0.length d) ∧ w'.cell? ⟨wr.heap.size, 1, none⟩ = some (.int .i64 x.f1) ∧ Below w.heap.size w w')) Z1i0 ?_ (fun hHeld => ?_)
     ·exact Z1i1
     iterate 7 (first | refine tk0.go ?_ | refine tk1.go ?_ | refine tk2.go ?_ | refine tk3.go ?_ | refine tk4.go ?_ | refine tk5.go ?_ | refine tk6.go ?_)
     refine wpAnyH_ready (rs := [7]) Z1i0 (by simp) (ac7 (fun K hK => ?_) (AllReadyH.nil))
     focus go_simp
     focus (refine (HX.out x hmem B d _ HCx.out l' (HBW0.out.trans (hHeld.2.2.2.mono HBW0.out.size)) hHeld.2.2.2).mono ?_; rintro e w2 ⟨rfl, hb2⟩)
     focus try simp only []
     refine hK.out _ _ ?_ (fun hHeld => ?_)
     ·exact Z1i2
     focus (clear hK K; refine Zp1i ?_)
     refine wpAnyH_ready (rs := [8]) Z1i0 (by simp) (ac8 (fun K hK => ?_) (AllReadyH.nil))
     focus go_simp
     focus (refine (mul_ok hwj hfx h1 _).mono ?_; rintro e w2 ⟨rfl, hb2⟩)
     focus try simp only []
     refine hK.out _ _ ?_ (fun hHeld => ?_)
     ·exact Z1i2
     focus (clear hK K; refine Zp1i ?_)
     iterate 2 (first | refine tk9.go ?_ | refine tk10.go ?_)
     refine wpAnyH_ready (rs := [11]) Z1i0 (by simp) (ac11 (fun K hK => ?_) (AllReadyH.nil))
     focus go_simp
     focus (refine (must64b_ok _ _).mono ?_; rintro e w2 ⟨rfl, hb2⟩)
     focus try simp only []
     refine hK.out _ _ ?_ (fun hHeld => ?_)
     ·exact Z1i2
     focus (clear hK K; refine Zp1i ?_)
     refine wpAnyH_ready (rs := [12]) Z1i0 (by simp) (ac12 (fun K hK => ?_) (AllReadyH.nil))
     focus go_simp
     focus (refine (add_ok hs h1 h2 _).mono ?_; rintro e w2 ⟨rfl, hb2⟩)
     focus try simp only []
     refine hK.out _ _ ?_ (fun hHeld => ?_)
     ·exact Z1i2
     focus (clear hK K; refine Zp1i ?_)
     iterate 2 (first | refine tk13.go ?_ | refine tk14.go ?_)
     refine wpAnyH_ready (rs := [15]) Z1i0 (by simp) (ac15 (fun K hK => ?_) (AllReadyH.nil))
     focus go_simp
     focus (refine (must64b_ok _ _).mono ?_; rintro e w2 ⟨rfl, hb2⟩)
     focus try simp only []
     refine hK.out _ _ ?_ (fun hHeld => ?_)
     ·exact Z1i2
     focus (clear hK K; refine Zp1i ?_)
     refine tk16.go ?_
     refine wpAnyH_done Z1i0 ?_ _; rotate_left 1
     all_goals
      go_wp2
      refine ⟨⟨j + 1, s + wj * f x, hjl, congrArg (Value.int .i64) EW.out, rfl, h2, HLL.out, hHeld.2.2.2⟩, ?_⟩
      rw [EW.out]
      simp only [intOf, Int.toNat_natCast]
      exact meas_lt hjl
    ·rw [okI_no h2, Option.bind_none] at hL
     obtain rfl : r = none := hL.symm
     clear hL
     go_wp2_with fail
     refine wp_region_held_drew (S := (fun w' => w'.cell? (aw.add j) = some (.int .i64 wj) ∧ w'.cell? ⟨wr.heap.size, 0, none⟩ = some (.slice B x.f0.length d) ∧ w'.cell? ⟨wr.heap.size, 1, none⟩ = some (.int .i64 x.f1) ∧ Below w.heap.size w w')) Z1i0 ?_ (fun hHeld => ?_)
     ·exact Z1i1
     iterate 7 (first | refine tk0.go ?_ | refine tk1.go ?_ | refine tk2.go ?_ | refine tk3.go ?_ | refine tk4.go ?_ | refine tk5.go ?_ | refine tk6.go ?_)
     refine wpAnyH_ready (rs := [7]) Z1i0 (by simp) (ac7 (fun K hK => ?_) (AllReadyH.nil))
     focus go_simp
     focus (refine (HX.out x hmem B d _ HCx.out l' (HBW0.out.trans (hHeld.2.2.2.mono HBW0.out.size)) hHeld.2.2.2).mono ?_; rintro e w2 ⟨rfl, hb2⟩)
     focus try simp only []
     refine hK.out _ _ ?_ (fun hHeld => ?_)
     ·exact Z1i2
     focus (clear hK K; refine Zp1i ?_)
     refine wpAnyH_ready (rs := [8]) Z1i0 (by simp) (ac8 (fun K hK => ?_) (AllReadyH.nil))
     focus go_simp
     focus (refine (mul_ok hwj hfx h1 _).mono ?_; rintro e w2 ⟨rfl, hb2⟩)
     focus try simp only []
     refine hK.out _ _ ?_ (fun hHeld => ?_)
     ·exact Z1i2
     focus (clear hK K; refine Zp1i ?_)
     iterate 2 (first | refine tk9.go ?_ | refine tk10.go ?_)
     refine wpAnyH_ready (rs := [11]) Z1i0 (by simp) (ac11 (fun K hK => ?_) (AllReadyH.nil))
     focus go_simp
     focus (refine (must64b_ok _ _).mono ?_; rintro e w2 ⟨rfl, hb2⟩)
     focus try simp only []
     refine hK.out _ _ ?_ (fun hHeld => ?_)
     ·exact Z1i2
     focus (clear hK K; refine Zp1i ?_)
     refine wpAnyH_ready (rs := [12]) Z1i0 (by simp) (ac12 (fun K hK => ?_) (AllReadyH.nil))
     focus go_simp
     focus (refine (add_no hs h1 h2 _).mono ?_; rintro e w2 ⟨rfl, hb2⟩)
     focus try simp only []
     refine hK.out _ _ ?_ (fun hHeld => ?_)
     ·exact Z1i2
     focus (clear hK K; refine Zp1i ?_)
     iterate 2 (first | refine tk13.go ?_ | refine tk14.go ?_)
     refine wpAnyH_ready (rs := [15]) Z1i0 (by simp) (ac15 (fun K hK => ?_) (AllReadyH.nil))
     focus go_simp
     ·exact Z1i3
   ·rw [okI_no h1, Option.bind_none] at hL
    obtain rfl : r = none := hL.symm
    clear hL
    go_wp2_with fail
    refine wp_region_held_drew (S := (fun w' => w'.cell? (aw.add j) = some (.int .i64 wj) ∧ w'.cell? ⟨wr.heap.size, 0, none⟩ = some (.slice B x.f0.length d) ∧ w'.cell? ⟨wr.heap.size, 1, none⟩ = some (.int .i64 x.f1) ∧ Below w.heap.size w w')) Z1i0 ?_ (fun hHeld => ?_)
    ·exact Z1i1
    iterate 7 (first | refine tk0.go ?_ | refine tk1.go ?_ | refine tk2.go ?_ | refine tk3.go ?_ | refine tk4.go ?_ | refine tk5.go ?_ | refine tk6.go ?_)
    refine wpAnyH_ready (rs := [7]) Z1i0 (by simp) (ac7 (fun K hK => ?_) (AllReadyH.nil))
    focus go_simp
    focus (refine (HX.out x hmem B d _ HCx.out l' (HBW0.out.trans (hHeld.2.2.2.mono HBW0.out.size)) hHeld.2.2.2).mono ?_; rintro e w2 ⟨rfl, hb2⟩)
    focus try simp only []
    refine hK.out _ _ ?_ (fun hHeld => ?_)
    ·exact Z1i2
    focus (clear hK K; refine Zp1i ?_)
    refine wpAnyH_ready (rs := [8]) Z1i0 (by simp) (ac8 (fun K hK => ?_) (AllReadyH.nil))
    focus go_simp
    focus (refine (mul_no hwj hfx h1 _).mono ?_; rintro e w2 ⟨rfl, hb2⟩)
    focus try simp only []
    refine hK.out _ _ ?_ (fun hHeld => ?_)
    ·exact Z1i2
    focus (clear hK K; refine Zp1i ?_)
    iterate 2 (first | refine tk9.go ?_ | refine tk10.go ?_)
    refine wpAnyH_ready (rs := [11]) Z1i0 (by simp) (ac11 (fun K hK => ?_) (AllReadyH.nil))
    focus go_simp
    ·exact Z1i3
  ·have hjj : j = l.length := by omega
   subst hjj
   rw [List.drop_length, show ws.drop l.length = [] by rw [HL.out, List.drop_length], show weighF [] (([] : List S40).map f) s = some s from rfl] at hL
   obtain rfl : r = some s := hL.symm
   have HBR := Lib.hid hbr
   clear hL hbr
   go_wp2
   go_ret
   exact ⟨rfl, HBR.out⟩
end Go.Proofs.YtbpjnkeilhfajaaGreat.Ln
end

section
/- linear.CheckFarkas's closures. -/
namespace Go.Proofs
theorem Z1k0 {p : Prop} (h : p := by repeat (first | exact Below.refl _ _ | with_reducible assumption | refine Below.alloc ?_ (by first | exact Nat.le_refl _ | (simp; done) | (simp; omega) | omega) _ | refine Below.setCell ?_ (by first | exact Nat.le_refl _ | (simp; done) | (simp; omega) | omega) _ | refine Below.drew ?_ | refine bdrewN ?_ _)) : p := h
end Go.Proofs
namespace Go.Proofs.YtbpjnkeilhfajaaGreat.Ln
open Go.RowKit Go.Proofs.YtbpjnkeilhfajaaGreat.Num Go.Proofs.YtbpjnkeilhfajaaGreat.Given Go.Proofs.YtbpjnkeilhfajaaGreat.Lin Go.Proofs.YtbpjnkeilhfajaaGreatW.PrintWords
set_option linter.unusedVariables false
set_option linter.unusedSimpArgs false
theorem farkas1_any (x : Int) (w : World) : Calls Tryz.prog 42 #[.int .i64 x] w fun e w' => e = .returned (.bool (decide (x < 0))) ∧ Below w.heap.size w w' := by
 go_enter Tryz.func42, Tryz.ntmps42
 go_wp2
 go_ret
 exact ⟨rfl, Below.refl _ _⟩
theorem farkas2_any (x : S40) (B : Option Addr) (d : Nat) (nb n : Nat) (w : World) (hn : w.cell? ⟨nb, 0, none⟩ = some (.int .i64 n)) :
  Calls Tryz.prog 45 #[.agg #[.slice B x.f0.length d, .int .i64 x.f1], .pointer (some ⟨nb, 0, none⟩)] w fun e w' => e = .returned (.bool (!((x.f0.length : Int) == (n : Int)))) ∧ Below w.heap.size w w' := by
 have zn := World.block_lt_of_cell? w _ hn
 simp only at zn
 go_enter Tryz.func45, Tryz.ntmps45
 go_wp2
 go_ret
 exact ⟨rfl, Z1k0⟩
theorem may1_any (x : S40) (B : Option Addr) (d : Nat) (nb : Nat) (n : Int) (w : World) (hn : w.cell? ⟨nb, 0, none⟩ = some (.int .i64 n)) :
  Calls Tryz.prog 96 #[.agg #[.slice B x.f0.length d, .int .i64 x.f1], .pointer (some ⟨nb, 0, none⟩)] w fun e w' => e = .returned (.bool (!((x.f0.length : Int) == n))) ∧ Below w.heap.size w w' := by
 have zn := World.block_lt_of_cell? w _ hn
 simp only at zn
 go_enter Tryz.func96, Tryz.ntmps96
 go_wp2
 go_ret
 exact ⟨rfl, Z1k0⟩
theorem farkas32_any (x : S40) (B : Option Addr) (d : Nat) (w : World) :
  Calls Tryz.prog 49 #[.agg #[.slice B x.f0.length d, .int .i64 x.f1]] w fun e w' => e = .returned (.int .i64 x.f1) ∧ Below w.heap.size w w' := by
 go_enter Tryz.func49, Tryz.ntmps49
 go_wp2
 go_ret
 exact ⟨rfl, Z1k0⟩
theorem farkas31_any (x : S40) (B : Option Addr) (d : Nat) (ib i : Nat) (w0 w : World) (hC : (Kd.int .i64).C w0 B x.f0.length x.f0) (hd : x.f0.length ≤ d) (hB : Below w0.heap.size w0 w) (hi : i < x.f0.length) (hn : w.cell? ⟨ib, 0, none⟩ = some (.int .i64 i)) :
  Calls Tryz.prog 48 #[.agg #[.slice B x.f0.length d, .int .i64 x.f1], .pointer (some ⟨ib, 0, none⟩)] w fun e w' => e = .returned (.int .i64 (x.f0.getD i 0)) ∧ Below w.heap.size w w' := by
 have zn := World.block_lt_of_cell? w _ hn
 simp only at zn
 obtain ⟨ad, e, x0⟩ := el_I hC hi
 have hg : x.f0.getD i 0 = x.f0[i] := by simp [List.getElem?_eq_getElem hi]
 rw [hg]
 have zx := World.block_lt_of_cell? w0 _ x0
 have zw := hB.size
 generalize x.f0[i] = y at *
 replace x0 := (hB.cell (World.block_lt_of_cell? w0 _ x0)).trans x0
 have zx2 : (ad.add i).block < w.heap.size := by omega
 subst e
 clear hB zx zw hg
 go_enter Tryz.func48, Tryz.ntmps48
 go_wp2
 go_ret
 exact ⟨rfl, Z1k0⟩
end Go.Proofs.YtbpjnkeilhfajaaGreat.Ln
end

section
/- linear.CheckFarkas$3: the sums of all columns. -/
namespace Go.Proofs.YtbpjnkeilhfajaaGreat.Ln
open Go.RowKit Go.Proofs.YtbpjnkeilhfajaaGreat.Num Go.Proofs.YtbpjnkeilhfajaaGreat.Given Go.Proofs.YtbpjnkeilhfajaaGreat.Lin Go.Proofs.YtbpjnkeilhfajaaGreatW.PrintWords
set_option linter.unusedVariables false
set_option linter.unusedSimpArgs false
def colsP (l : List S40) (ws : List Int) : Nat → Nat → Bool → Option Bool
 | 0, _, b => if b = true then (weighF ws (l.map fun r => r.f1) 0).bind fun s => some (decide (0 < s)) else some false
 | d + 1, i, b => if b = true then (weighF ws (l.map fun r => r.f0.getD i 0) 0).bind fun s => colsP l ws d (i + 1) (s == 0) else colsP l ws d (i + 1) false
set_option maxHeartbeats 8000000 in
set_option maxRecDepth 100000 in
theorem farkas3_any (l : List S40) (ws : List Int) (n : Nat) (A A' : Option Addr) (c c' : Nat) (nb ab rb wb : Nat) (w0 w : World) (hC : Kd.C k40 w0 A l.length l) (hc : l.length ≤ c) (hV : (Kd.int .i64).C w0 A' ws.length ws) (hc' : ws.length ≤ c') (hB : Below w0.heap.size w0 w) (hl : l.length = ws.length)
  (hin : ∀ r, r ∈ l → In64 r.f1 ∧ ∀ x, x ∈ r.f0 → In64 x) (hn : ∀ r, r ∈ l → r.f0.length = n) (hnn : n ≤ 9223372036854775807) (hws : ∀ x, x ∈ ws → In64 x)
  (h1 : w.heap[nb]? = some (.cells #[.int .i64 n] 3 (0, 0))) (h2 : w.heap[ab]? = some (.cells #[.bool true] 4 (0, 0))) (h3 : w.heap[rb]? = some (.cells #[.slice A l.length c] 22 (0, 0))) (h4 : w.heap[wb]? = some (.cells #[.slice A' ws.length c'] 23 (0, 0))) (ha : w0.heap.size ≤ ab) (hna : nb ≠ ab) (hra : rb ≠ ab) (hwa : wb ≠ ab) :
  Calls Tryz.prog 46 #[.pointer (some ⟨nb, 0, none⟩), .pointer (some ⟨ab, 0, none⟩), .pointer (some ⟨rb, 0, none⟩), .pointer (some ⟨wb, 0, none⟩)] w fun e w' => PointEnd ab (colsP l ws n 0 true) e w' ∧ Fp (fun k => k = ab) w w' := by
 obtain ⟨r, hr⟩ : ∃ r, colsP l ws n 0 true = r := ⟨_, rfl⟩
 rw [hr]
 have hcol : ∀ j, j < n → ∀ W, Below w0.heap.size w0 W → ∀ ib, W.cell? ⟨ib, 0, none⟩ = some (.int .i64 (j : Int)) → Calls Tryz.prog 47 #[.slice A l.length c, .slice A' ws.length c', .func (.func 48) #[] #[.pointer (some ⟨ib, 0, none⟩)]] W fun e w' => WeighEnd (weighF ws (l.map fun r => r.f0.getD j 0) 0) e ∧ Below W.heap.size W w' := by
  intro j hj W hW ib hib
  refine weighC (fun r => r.f0.getD j 0) l ws A A' c c' _ w0 W hC hc hV hc' hW hl ?_ hws ?_
  ·intro x hx
   have hlt : j < x.f0.length := by rw [hn x hx]; exact hj
   rw [show x.f0.getD j 0 = x.f0[j] by simp [List.getElem?_eq_getElem hlt]]
   exact (hin x hx).2 _ (List.getElem_mem hlt)
  ·intro x hx B d W2 k1 k2 k3 k4
   exact farkas31_any x B d ib j w0 W2 k1 k2 k3 (by rw [hn x hx]; exact hj) (kcell k4 hib)
 have hk : ∀ W, Below w0.heap.size w0 W → Calls Tryz.prog 47 #[.slice A l.length c, .slice A' ws.length c', .func (.func 49) #[] #[]] W fun e w' => WeighEnd (weighF ws (l.map fun r => r.f1) 0) e ∧ Below W.heap.size W w' := by
  intro W hW
  exact weighK (fun r => r.f1) l ws A A' c c' w0 W hC hc hV hc' hW hl (fun x hx => (hin x hx).1) hws (fun x hx B d W2 _ _ _ _ => farkas32_any x B d W2)
 have HCOL := Lib.hid hcol
 have HK := Lib.hid hk
 have HB := Lib.hid hB
 have HR := Lib.hid hr
 have H1 := Lib.hid h1
 have H2 := Lib.hid h2
 have H3 := Lib.hid h3
 have H4 := Lib.hid h4
 have p1 : w.cell? ⟨nb, 0, none⟩ = some (.int .i64 n) := blk_cell h1 0
 clear hcol hk hC hV hB hin hn hr h1 h2 h3 h4 hws hl
 go_enter Tryz.func46, Tryz.ntmps46
 go_wp2
 go_loopw [6] (fun v wr => ∃ (j : Nat) (b : Bool), j ≤ n ∧ v = .int .i64 j ∧ colsP l ws (n - j) j b = r ∧ wr.heap[ab]? = some (.cells #[.bool b] 4 (0, 0)) ∧ Fp (fun k => k = ab) w wr) (fun v _ => n - (intOf v).toNat)
 case atStart => exact ⟨0, true, Nat.zero_le _, rfl, HR.out, H2.out, Fp.refl _ _⟩
 case round =>
  obtain ⟨j, b, hj, rfl, hL, hP, hbr⟩ := hrel
  have hbw : Below w0.heap.size w0 wr := HB.out.trans (hbr.below HB.out.size (by intro i hi he; omega))
  have za := blk_lt hP
  have q1 : wr.cell? ⟨ab, 0, none⟩ = some (.bool b) := blk_cell hP 0
  have q2 : wr.frozen? ⟨ab, 0, none⟩ = false := blk_frozen hP 0
  have hp3 := (hbr.block _ (blk_lt H3.out) hra).trans H3.out
  have q3 : wr.cell? ⟨rb, 0, none⟩ = some (.slice A l.length c) := blk_cell hp3 0
  have hp4 := (hbr.block _ (blk_lt H4.out) hwa).trans H4.out
  have q4 : wr.cell? ⟨wb, 0, none⟩ = some (.slice A' ws.length c') := blk_cell hp4 0
  have z3 := blk_lt hp3
  have z4 := blk_lt hp4
  have HP := Lib.hid hP
  have HBR := Lib.hid hbr
  have HBW := Lib.hid hbw
  clear hP hbr hbw hp3 hp4
  by_cases hjl : j < n
  ·rw [show n - j = n - (j + 1) + 1 by omega, colsP] at hL
   have EW := Lib.hid (wrapj (show j + 1 < 9223372036854775808 by omega))
   cases b with
   | false =>
    rw [if_neg (by decide)] at hL
    have HLL := Lib.hid hL
    clear hL
    go_wp2
    refine ⟨⟨j + 1, false, hjl, congrArg (Value.int .i64) (Int.natCast_succ j).symm, HLL.out, ?hblk, ?hfp⟩, ?_⟩
    case hblk => exact blk_alloc (blk_put HP.out 0 _ rfl) _
    case hfp => exact (HBR.out.setCell (a := ⟨ab, 0, none⟩) (fun _ => rfl) _).alloc _
    show n - ((j : Int) + 1).toNat < n - (j : Int).toNat
    omega
   | true =>
    rw [if_pos rfl] at hL
    have hcj := HCOL.out j hjl (wr.alloc (.cells #[.int .i64 (j : Int)] 3)) (HBW.out.alloc HBW.out.size _) wr.heap.size (blk_cell (blk_new wr _) 0)
    have HP0 := Lib.hid (blk_alloc HP.out (.cells #[.int .i64 (j : Int)] 3))
    cases hh : weighF ws (l.map fun r => r.f0.getD j 0) 0 with
    | none =>
     rw [hh] at hcj
     rw [hh, Option.bind_none] at hL
     obtain rfl : r = none := hL.symm
     have HCJ := Lib.hid hcj
     clear hcj hL hh
     go_wp2_with fail
     refine HCJ.out.mono ?_
     rintro e w2 ⟨he, hb2⟩
     obtain rfl : e = .panicked LargeL := he
     exact ⟨rfl, rfl, (HBR.out.alloc _).tr (Fp.of_below hb2)⟩
    | some s =>
     rw [hh] at hcj
     rw [hh, Option.bind_some] at hL
     have HCJ := Lib.hid hcj
     have HLL := Lib.hid hL
     clear hcj hL hh
     go_wp2_with fail
     refine HCJ.out.mono ?_
     rintro e w2 ⟨he, hb2⟩
     obtain rfl : e = .returned (.int .i64 s) := he
     have hp2 := (hb2.block ab (by simp; omega)).trans HP0.out
     have r1 : w2.cell? ⟨ab, 0, none⟩ = some (.bool true) := blk_cell hp2 0
     have r2 : w2.frozen? ⟨ab, 0, none⟩ = false := blk_frozen hp2 0
     have HP2 := Lib.hid hp2
     have HB2 := Lib.hid ((HBR.out.alloc _).tr (Fp.of_below (S := fun k => k = ab) hb2))
     clear hp2 hb2
     go_wp2
     refine ⟨⟨j + 1, s == 0, hjl, congrArg (Value.int .i64) (Int.natCast_succ j).symm, HLL.out, ?hblk, ?hfp⟩, ?_⟩
     case hblk => exact blk_put HP2.out 0 _ rfl
     case hfp => exact HB2.out.setCell (a := ⟨ab, 0, none⟩) (fun _ => rfl) _
     show n - ((j : Int) + 1).toNat < n - (j : Int).toNat
     omega
  ·have hjj : j = n := by omega
   subst hjj
   rw [Nat.sub_self, colsP] at hL
   cases b with
   | false =>
    rw [if_neg (by decide)] at hL
    obtain rfl : r = some false := hL.symm
    clear hL
    go_wp2
    simp [bodyPost, results, Tryz.results46, go_sem]
    exact ⟨And.intro rfl (blk_put HP.out 0 _ rfl), HBR.out.setCell (a := ⟨ab, 0, none⟩) (fun _ => rfl) _⟩
   | true =>
    rw [if_pos rfl] at hL
    have hkk := HK.out wr HBW.out
    cases hh : weighF ws (l.map fun r => r.f1) 0 with
    | none =>
     rw [hh] at hkk
     rw [hh, Option.bind_none] at hL
     obtain rfl : r = none := hL.symm
     have HKK := Lib.hid hkk
     clear hkk hL hh
     go_wp2_with fail
     refine HKK.out.mono ?_
     rintro e w2 ⟨he, hb2⟩
     obtain rfl : e = .panicked LargeL := he
     exact ⟨rfl, rfl, HBR.out.tr (Fp.of_below hb2)⟩
    | some s =>
     rw [hh] at hkk
     rw [hh, Option.bind_some] at hL
     obtain rfl : r = some (decide (0 < s)) := hL.symm
     have HKK := Lib.hid hkk
     clear hkk hL hh
     go_wp2_with fail
     refine HKK.out.mono ?_
     rintro e w2 ⟨he, hb2⟩
     obtain rfl : e = .returned (.int .i64 s) := he
     have hp2 := (hb2.block ab za).trans HP.out
     have r1 : w2.cell? ⟨ab, 0, none⟩ = some (.bool true) := blk_cell hp2 0
     have r2 : w2.frozen? ⟨ab, 0, none⟩ = false := blk_frozen hp2 0
     have HP2 := Lib.hid hp2
     have HB2 := Lib.hid (HBR.out.tr (Fp.of_below (S := fun k => k = ab) hb2))
     clear hp2 hb2
     go_wp2
     simp [bodyPost, results, Tryz.results46, go_sem]
     exact ⟨And.intro rfl (blk_put HP2.out 0 _ rfl), HB2.out.setCell (a := ⟨ab, 0, none⟩) (fun _ => rfl) _⟩
end Go.Proofs.YtbpjnkeilhfajaaGreat.Ln
end
