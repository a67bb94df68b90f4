import Derived.Test.YtdkbnbebioflaaaTk
import Derived.Test.YtdkbnbebioflaaaLnD
section
/- linear.weighed at its two closures. -/
namespace Go.Proofs
theorem Z1f0 {p : Prop} (h : p := by kernel_rfl) : p := h
theorem Z1f1 {p : Prop} (h : p := by (first | exact ⟨YW.out, by simp [go_sem], by simp [go_sem], (HBR.out.alloc HBR.out.size _).drew⟩ | exact hHeld)) : p := h
theorem Z1f2 {p : Prop} (h : p := by exact ⟨kcell hb2 hHeld.1, kcell hb2 hHeld.2.1, kcell hb2 hHeld.2.2.1, hHeld.2.2.2.trans (hb2.mono hHeld.2.2.2.size)⟩) : p := h
theorem Z1f3 {p : Prop} (h : p := by (refine (must64b_no _ _).mono ?_; rintro e w2 ⟨rfl, hb2⟩; exact ⟨rfl, rfl, hHeld.2.2.2.trans (hb2.mono hHeld.2.2.2.size)⟩)) : p := h
end Go.Proofs
namespace Go.Proofs.Ytdkbnbebioflaaa.Ln
open Go.RowKit Go.Proofs.Ytdkbnbebioflaaa.Num Go.Proofs.Ytdkbnbebioflaaa.Given Go.Proofs.Ytdkbnbebioflaaa.Lin Go.Proofs.YtdkbnbebioflaaaW.PrintWords
set_option linter.unusedVariables false
set_option linter.unusedSimpArgs false

theorem okI_is {x : Int} (h : In64 x) : okI x = some x := if_pos h
theorem okI_no {x : Int} (h : ¬ In64 x) : okI x = none := if_neg h
theorem add_ok {a b : Int} (ha : In64 a) (hb : In64 b) (h : In64 (a + b)) (w : World) :
    Calls Try.prog 51 #[.int .i64 a, .int .i64 b] w fun e w' => e = .returned (.tuple #[.int .i64 (a + b), .bool true]) ∧ Below w.heap.size w w' := by
  have := Add_any a b w ha hb
  rwa [show fitp (a + b) = (a + b, true) from if_pos h] at this
theorem add_no {a b : Int} (ha : In64 a) (hb : In64 b) (h : ¬ In64 (a + b)) (w : World) :
    Calls Try.prog 51 #[.int .i64 a, .int .i64 b] w fun e w' => e = .returned (.tuple #[.int .i64 0, .bool false]) ∧ Below w.heap.size w w' := by
  have := Add_any a b w ha hb
  rwa [show fitp (a + b) = (0, false) from if_neg h] at this
theorem mul_ok {a b : Int} (ha : In64 a) (hb : In64 b) (h : In64 (a * b)) (w : World) :
    Calls Try.prog 52 #[.int .i64 a, .int .i64 b] w fun e w' => e = .returned (.tuple #[.int .i64 (a * b), .bool true]) ∧ Below w.heap.size w w' := by
  have := Mul_any a b w ha hb
  rwa [show fitp (a * b) = (a * b, true) from if_pos h] at this
theorem mul_no {a b : Int} (ha : In64 a) (hb : In64 b) (h : ¬ In64 (a * b)) (w : World) :
    Calls Try.prog 52 #[.int .i64 a, .int .i64 b] w fun e w' => e = .returned (.tuple #[.int .i64 0, .bool false]) ∧ Below w.heap.size w w' := by
  have := Mul_any a b w ha hb
  rwa [show fitp (a * b) = (0, false) from if_neg h] at this
theorem must64b_ok (p : Int) (w : World) : Calls Try.prog 50 #[.int .i64 p, .bool true] w fun e w' => e = .returned (.int .i64 p) ∧ Below w.heap.size w w' :=
  (must64_ok p w).mono (by rintro e w' ⟨rfl, rfl⟩; exact ⟨rfl, Below.refl _ _⟩)
theorem must64b_no (p : Int) (w : World) : Calls Try.prog 50 #[.int .i64 p, .bool false] w fun e w' => e = .panicked LargeL ∧ Below w.heap.size w w' :=
  (must64_no p w).mono (by rintro e w' ⟨rfl, rfl⟩; exact ⟨rfl, Below.refl _ _⟩)
def WeighEnd (o : Option Int) (e : Ending) : Prop := match o with
  | some s => e = .returned (.int .i64 s)
  | none => e = .panicked LargeL


set_option maxHeartbeats 8000000 in
set_option maxRecDepth 100000 in
theorem weighC (f : S38 → Int) (l : List S38) (ws : List Int) (A A' : Option Addr) (c c' : Nat) (v : Value) (w0 w : World) (hC : Kd.C k38 w0 A l.length l) (hc : l.length ≤ c) (hW : (Kd.int .i64).C w0 A' ws.length ws) (hc' : ws.length ≤ c') (hB : Below w0.heap.size w0 w) (hl : l.length = ws.length)
    (hf : ∀ x, x ∈ l → In64 (f x)) (hws : ∀ x, x ∈ ws → In64 x)
    (H : ∀ x, x ∈ l → ∀ (B : Option Addr) (d : Nat) (W : World), (Kd.int .i64).C w0 B x.f0.length x.f0 → x.f0.length ≤ d → Below w0.heap.size w0 W → Below w.heap.size w W → Calls Try.prog 29 #[.agg #[.slice B x.f0.length d, .int .i64 x.f1], v] W fun e w' => e = .returned (.int .i64 (f x)) ∧ Below W.heap.size W w') :
    Calls Try.prog 28 #[.slice A l.length c, .slice A' ws.length c', .func (.func 29) #[] #[v]] w fun e w' => WeighEnd (weighF ws (l.map f) 0) e ∧ Below w.heap.size w w' := by
  obtain ⟨r, hr⟩ : ∃ r, weighF ws (l.map f) 0 = r := ⟨_, rfl⟩
  rw [hr]
  have HC := Lib.hid hC
  have HW := Lib.hid hW
  have HBW0 := Lib.hid hB
  have HX := Lib.hid H
  have HF := Lib.hid hf
  have HWS := Lib.hid hws
  have HL := Lib.hid hl
  have HR := Lib.hid hr
  clear hC hW hB H hf hws hl hr
  go_enter Try.func28, Try.ntmps28
  go_wp2
  go_loopw [11, 6] (fun v s6 wr => ∃ (j : Nat) (s : Int), j ≤ l.length ∧ v = .int .i64 j ∧ s6 = .int .i64 s ∧ In64 s ∧ weighF (ws.drop j) ((l.drop j).map f) s = r ∧ Below w.heap.size w wr) (fun v _ _ => l.length - (intOf v).toNat)
  case atStart => exact ⟨0, 0, Nat.zero_le _, rfl, rfl, ⟨by decide, by decide⟩, by simp only [List.drop_zero]; exact HR.out, Below.refl _ _⟩
  case round =>
    obtain ⟨j, s, hj, rfl, rfl, hs, hL, hbr⟩ := hrel
    by_cases hjl : j < l.length
    · have hmax := Kd.C_max HC.out
      have hjw : j < ws.length := by rw [← HL.out]; exact hjl
      obtain ⟨ad, B, d, e, x0, x1, l', C'⟩ := el_R HC.out hjl
      obtain ⟨aw, e', y0⟩ := el_I HW.out hjw
      have hbw : Below w0.heap.size w0 wr := HBW0.out.trans (hbr.mono HBW0.out.size)
      have hmem : l[j] ∈ l := List.getElem_mem hjl
      have hfx := HF.out _ hmem
      have hwj := HWS.out _ (List.getElem_mem hjw)
      rw [List.drop_eq_getElem_cons hjl, List.drop_eq_getElem_cons hjw, List.map_cons, weighF] at hL
      generalize l[j] = x at *
      generalize ws[j] = wj at *
      replace x0 := (hbw.cell (World.block_lt_of_cell? w0 _ x0)).trans x0
      replace x1 := (hbw.cell (World.block_lt_of_cell? w0 _ x1)).trans x1
      have YW := Lib.hid (show ((wr.alloc (.cells #[.slice B x.f0.length d, .int .i64 x.f1] 38)).drew).cell? (aw.add j) = some (.int .i64 wj) from kcell ((Below.refl wr.heap.size wr).alloc (Nat.le_refl _) _).drew ((hbw.cell (World.block_lt_of_cell? w0 _ y0)).trans y0))
      subst e
      subst e'
      have EW := Lib.hid (wrapj (succ_lt hjl hmax))
      have HBR := Lib.hid hbr
      have HCx := Lib.hid C'
      clear hbr hbw hmax y0 C'
      by_cases h1 : In64 (wj * f x)
      · rw [okI_is h1, Option.bind_some] at hL
        by_cases h2 : In64 (s + wj * f x)
        · rw [okI_is h2, Option.bind_some] at hL
          have HLL := Lib.hid hL
          clear hL
          go_wp2_with fail
          refine wp_region_held_drew (S := (fun w' => w'.cell? (aw.add j) = some (.int .i64 wj) ∧ w'.cell? ⟨wr.heap.size, 0, none⟩ = some (.slice B x.f0.length d) ∧ w'.cell? ⟨wr.heap.size, 1, none⟩ = some (.int .i64 x.f1) ∧ Below w.heap.size w w')) Z1f0 ?_ (fun hHeld => ?_)
          · exact Z1f1
          iterate 7 (first | refine tk0.go ?_ | refine tk1.go ?_ | refine tk2.go ?_ | refine tk3.go ?_ | refine tk4.go ?_ | refine tk5.go ?_ | refine tk6.go ?_)
          refine wpAnyH_ready (rs := [7]) Z1f0 (by simp) (ac7 (fun K hK => ?_) (AllReadyH.nil))
          focus go_simp
          focus (refine (HX.out x hmem B d _ HCx.out l' (HBW0.out.trans (hHeld.2.2.2.mono HBW0.out.size)) hHeld.2.2.2).mono ?_; rintro e w2 ⟨rfl, hb2⟩)
          focus try simp only []
          refine hK.out _ _ ?_ (fun hHeld => ?_)
          · exact Z1f2
          focus clear hK K; try simp only [Act.put, List.setIfInBounds_toArray, List.set_cons_zero, List.set_cons_succ]
          refine wpAnyH_ready (rs := [8]) Z1f0 (by simp) (ac8 (fun K hK => ?_) (AllReadyH.nil))
          focus go_simp
          focus (refine (mul_ok hwj hfx h1 _).mono ?_; rintro e w2 ⟨rfl, hb2⟩)
          focus try simp only []
          refine hK.out _ _ ?_ (fun hHeld => ?_)
          · exact Z1f2
          focus clear hK K; try simp only [Act.put, List.setIfInBounds_toArray, List.set_cons_zero, List.set_cons_succ]
          iterate 2 (first | refine tk9.go ?_ | refine tk10.go ?_)
          refine wpAnyH_ready (rs := [11]) Z1f0 (by simp) (ac11 (fun K hK => ?_) (AllReadyH.nil))
          focus go_simp
          focus (refine (must64b_ok _ _).mono ?_; rintro e w2 ⟨rfl, hb2⟩)
          focus try simp only []
          refine hK.out _ _ ?_ (fun hHeld => ?_)
          · exact Z1f2
          focus clear hK K; try simp only [Act.put, List.setIfInBounds_toArray, List.set_cons_zero, List.set_cons_succ]
          refine wpAnyH_ready (rs := [12]) Z1f0 (by simp) (ac12 (fun K hK => ?_) (AllReadyH.nil))
          focus go_simp
          focus (refine (add_ok hs h1 h2 _).mono ?_; rintro e w2 ⟨rfl, hb2⟩)
          focus try simp only []
          refine hK.out _ _ ?_ (fun hHeld => ?_)
          · exact Z1f2
          focus clear hK K; try simp only [Act.put, List.setIfInBounds_toArray, List.set_cons_zero, List.set_cons_succ]
          iterate 2 (first | refine tk13.go ?_ | refine tk14.go ?_)
          refine wpAnyH_ready (rs := [15]) Z1f0 (by simp) (ac15 (fun K hK => ?_) (AllReadyH.nil))
          focus go_simp
          focus (refine (must64b_ok _ _).mono ?_; rintro e w2 ⟨rfl, hb2⟩)
          focus try simp only []
          refine hK.out _ _ ?_ (fun hHeld => ?_)
          · exact Z1f2
          focus clear hK K; try simp only [Act.put, List.setIfInBounds_toArray, List.set_cons_zero, List.set_cons_succ]
          refine tk16.go ?_
          refine wpAnyH_done Z1f0 ?_ _; rotate_left 1
          all_goals
            go_wp2
            refine ⟨⟨j + 1, s + wj * f x, hjl, congrArg (Value.int .i64) EW.out, rfl, h2, HLL.out, hHeld.2.2.2⟩, ?_⟩
            rw [EW.out]
            simp only [intOf, Int.toNat_natCast]
            exact meas_lt hjl
        · rw [okI_no h2, Option.bind_none] at hL
          obtain rfl : r = none := hL.symm
          clear hL
          go_wp2_with fail
          refine wp_region_held_drew (S := (fun w' => w'.cell? (aw.add j) = some (.int .i64 wj) ∧ w'.cell? ⟨wr.heap.size, 0, none⟩ = some (.slice B x.f0.length d) ∧ w'.cell? ⟨wr.heap.size, 1, none⟩ = some (.int .i64 x.f1) ∧ Below w.heap.size w w')) Z1f0 ?_ (fun hHeld => ?_)
          · exact Z1f1
          iterate 7 (first | refine tk0.go ?_ | refine tk1.go ?_ | refine tk2.go ?_ | refine tk3.go ?_ | refine tk4.go ?_ | refine tk5.go ?_ | refine tk6.go ?_)
          refine wpAnyH_ready (rs := [7]) Z1f0 (by simp) (ac7 (fun K hK => ?_) (AllReadyH.nil))
          focus go_simp
          focus (refine (HX.out x hmem B d _ HCx.out l' (HBW0.out.trans (hHeld.2.2.2.mono HBW0.out.size)) hHeld.2.2.2).mono ?_; rintro e w2 ⟨rfl, hb2⟩)
          focus try simp only []
          refine hK.out _ _ ?_ (fun hHeld => ?_)
          · exact Z1f2
          focus clear hK K; try simp only [Act.put, List.setIfInBounds_toArray, List.set_cons_zero, List.set_cons_succ]
          refine wpAnyH_ready (rs := [8]) Z1f0 (by simp) (ac8 (fun K hK => ?_) (AllReadyH.nil))
          focus go_simp
          focus (refine (mul_ok hwj hfx h1 _).mono ?_; rintro e w2 ⟨rfl, hb2⟩)
          focus try simp only []
          refine hK.out _ _ ?_ (fun hHeld => ?_)
          · exact Z1f2
          focus clear hK K; try simp only [Act.put, List.setIfInBounds_toArray, List.set_cons_zero, List.set_cons_succ]
          iterate 2 (first | refine tk9.go ?_ | refine tk10.go ?_)
          refine wpAnyH_ready (rs := [11]) Z1f0 (by simp) (ac11 (fun K hK => ?_) (AllReadyH.nil))
          focus go_simp
          focus (refine (must64b_ok _ _).mono ?_; rintro e w2 ⟨rfl, hb2⟩)
          focus try simp only []
          refine hK.out _ _ ?_ (fun hHeld => ?_)
          · exact Z1f2
          focus clear hK K; try simp only [Act.put, List.setIfInBounds_toArray, List.set_cons_zero, List.set_cons_succ]
          refine wpAnyH_ready (rs := [12]) Z1f0 (by simp) (ac12 (fun K hK => ?_) (AllReadyH.nil))
          focus go_simp
          focus (refine (add_no hs h1 h2 _).mono ?_; rintro e w2 ⟨rfl, hb2⟩)
          focus try simp only []
          refine hK.out _ _ ?_ (fun hHeld => ?_)
          · exact Z1f2
          focus clear hK K; try simp only [Act.put, List.setIfInBounds_toArray, List.set_cons_zero, List.set_cons_succ]
          iterate 2 (first | refine tk13.go ?_ | refine tk14.go ?_)
          refine wpAnyH_ready (rs := [15]) Z1f0 (by simp) (ac15 (fun K hK => ?_) (AllReadyH.nil))
          focus go_simp
          · exact Z1f3
      · rw [okI_no h1, Option.bind_none] at hL
        obtain rfl : r = none := hL.symm
        clear hL
        go_wp2_with fail
        refine wp_region_held_drew (S := (fun w' => w'.cell? (aw.add j) = some (.int .i64 wj) ∧ w'.cell? ⟨wr.heap.size, 0, none⟩ = some (.slice B x.f0.length d) ∧ w'.cell? ⟨wr.heap.size, 1, none⟩ = some (.int .i64 x.f1) ∧ Below w.heap.size w w')) Z1f0 ?_ (fun hHeld => ?_)
        · exact Z1f1
        iterate 7 (first | refine tk0.go ?_ | refine tk1.go ?_ | refine tk2.go ?_ | refine tk3.go ?_ | refine tk4.go ?_ | refine tk5.go ?_ | refine tk6.go ?_)
        refine wpAnyH_ready (rs := [7]) Z1f0 (by simp) (ac7 (fun K hK => ?_) (AllReadyH.nil))
        focus go_simp
        focus (refine (HX.out x hmem B d _ HCx.out l' (HBW0.out.trans (hHeld.2.2.2.mono HBW0.out.size)) hHeld.2.2.2).mono ?_; rintro e w2 ⟨rfl, hb2⟩)
        focus try simp only []
        refine hK.out _ _ ?_ (fun hHeld => ?_)
        · exact Z1f2
        focus clear hK K; try simp only [Act.put, List.setIfInBounds_toArray, List.set_cons_zero, List.set_cons_succ]
        refine wpAnyH_ready (rs := [8]) Z1f0 (by simp) (ac8 (fun K hK => ?_) (AllReadyH.nil))
        focus go_simp
        focus (refine (mul_no hwj hfx h1 _).mono ?_; rintro e w2 ⟨rfl, hb2⟩)
        focus try simp only []
        refine hK.out _ _ ?_ (fun hHeld => ?_)
        · exact Z1f2
        focus clear hK K; try simp only [Act.put, List.setIfInBounds_toArray, List.set_cons_zero, List.set_cons_succ]
        iterate 2 (first | refine tk9.go ?_ | refine tk10.go ?_)
        refine wpAnyH_ready (rs := [11]) Z1f0 (by simp) (ac11 (fun K hK => ?_) (AllReadyH.nil))
        focus go_simp
        · exact Z1f3
    · have hjj : j = l.length := by omega
      subst hjj
      rw [List.drop_length, show ws.drop l.length = [] by rw [HL.out, List.drop_length], show weighF [] (([] : List S38).map f) s = some s from rfl] at hL
      obtain rfl : r = some s := hL.symm
      have HBR := Lib.hid hbr
      clear hL hbr
      go_wp2
      go_ret
      exact ⟨rfl, HBR.out⟩


set_option maxHeartbeats 8000000 in
set_option maxRecDepth 100000 in
theorem weighK (f : S38 → Int) (l : List S38) (ws : List Int) (A A' : Option Addr) (c c' : Nat) (w0 w : World) (hC : Kd.C k38 w0 A l.length l) (hc : l.length ≤ c) (hW : (Kd.int .i64).C w0 A' ws.length ws) (hc' : ws.length ≤ c') (hB : Below w0.heap.size w0 w) (hl : l.length = ws.length)
    (hf : ∀ x, x ∈ l → In64 (f x)) (hws : ∀ x, x ∈ ws → In64 x)
    (H : ∀ x, x ∈ l → ∀ (B : Option Addr) (d : Nat) (W : World), (Kd.int .i64).C w0 B x.f0.length x.f0 → x.f0.length ≤ d → Below w0.heap.size w0 W → Below w.heap.size w W → Calls Try.prog 30 #[.agg #[.slice B x.f0.length d, .int .i64 x.f1]] W fun e w' => e = .returned (.int .i64 (f x)) ∧ Below W.heap.size W w') :
    Calls Try.prog 28 #[.slice A l.length c, .slice A' ws.length c', .func (.func 30) #[] #[]] w fun e w' => WeighEnd (weighF ws (l.map f) 0) e ∧ Below w.heap.size w w' := by
  obtain ⟨r, hr⟩ : ∃ r, weighF ws (l.map f) 0 = r := ⟨_, rfl⟩
  rw [hr]
  have HC := Lib.hid hC
  have HW := Lib.hid hW
  have HBW0 := Lib.hid hB
  have HX := Lib.hid H
  have HF := Lib.hid hf
  have HWS := Lib.hid hws
  have HL := Lib.hid hl
  have HR := Lib.hid hr
  clear hC hW hB H hf hws hl hr
  go_enter Try.func28, Try.ntmps28
  go_wp2
  go_loopw [11, 6] (fun v s6 wr => ∃ (j : Nat) (s : Int), j ≤ l.length ∧ v = .int .i64 j ∧ s6 = .int .i64 s ∧ In64 s ∧ weighF (ws.drop j) ((l.drop j).map f) s = r ∧ Below w.heap.size w wr) (fun v _ _ => l.length - (intOf v).toNat)
  case atStart => exact ⟨0, 0, Nat.zero_le _, rfl, rfl, ⟨by decide, by decide⟩, by simp only [List.drop_zero]; exact HR.out, Below.refl _ _⟩
  case round =>
    obtain ⟨j, s, hj, rfl, rfl, hs, hL, hbr⟩ := hrel
    by_cases hjl : j < l.length
    · have hmax := Kd.C_max HC.out
      have hjw : j < ws.length := by rw [← HL.out]; exact hjl
      obtain ⟨ad, B, d, e, x0, x1, l', C'⟩ := el_R HC.out hjl
      obtain ⟨aw, e', y0⟩ := el_I HW.out hjw
      have hbw : Below w0.heap.size w0 wr := HBW0.out.trans (hbr.mono HBW0.out.size)
      have hmem : l[j] ∈ l := List.getElem_mem hjl
      have hfx := HF.out _ hmem
      have hwj := HWS.out _ (List.getElem_mem hjw)
      rw [List.drop_eq_getElem_cons hjl, List.drop_eq_getElem_cons hjw, List.map_cons, weighF] at hL
      generalize l[j] = x at *
      generalize ws[j] = wj at *
      replace x0 := (hbw.cell (World.block_lt_of_cell? w0 _ x0)).trans x0
      replace x1 := (hbw.cell (World.block_lt_of_cell? w0 _ x1)).trans x1
      have YW := Lib.hid (show ((wr.alloc (.cells #[.slice B x.f0.length d, .int .i64 x.f1] 38)).drew).cell? (aw.add j) = some (.int .i64 wj) from kcell ((Below.refl wr.heap.size wr).alloc (Nat.le_refl _) _).drew ((hbw.cell (World.block_lt_of_cell? w0 _ y0)).trans y0))
      subst e
      subst e'
      have EW := Lib.hid (wrapj (succ_lt hjl hmax))
      have HBR := Lib.hid hbr
      have HCx := Lib.hid C'
      clear hbr hbw hmax y0 C'
      by_cases h1 : In64 (wj * f x)
      · rw [okI_is h1, Option.bind_some] at hL
        by_cases h2 : In64 (s + wj * f x)
        · rw [okI_is h2, Option.bind_some] at hL
          have HLL := Lib.hid hL
          clear hL
          go_wp2_with fail
          refine wp_region_held_drew (S := (fun w' => w'.cell? (aw.add j) = some (.int .i64 wj) ∧ w'.cell? ⟨wr.heap.size, 0, none⟩ = some (.slice B x.f0.length d) ∧ w'.cell? ⟨wr.heap.size, 1, none⟩ = some (.int .i64 x.f1) ∧ Below w.heap.size w w')) Z1f0 ?_ (fun hHeld => ?_)
          · exact Z1f1
          iterate 7 (first | refine tk0.go ?_ | refine tk1.go ?_ | refine tk2.go ?_ | refine tk3.go ?_ | refine tk4.go ?_ | refine tk5.go ?_ | refine tk6.go ?_)
          refine wpAnyH_ready (rs := [7]) Z1f0 (by simp) (ac7 (fun K hK => ?_) (AllReadyH.nil))
          focus go_simp
          focus (refine (HX.out x hmem B d _ HCx.out l' (HBW0.out.trans (hHeld.2.2.2.mono HBW0.out.size)) hHeld.2.2.2).mono ?_; rintro e w2 ⟨rfl, hb2⟩)
          focus try simp only []
          refine hK.out _ _ ?_ (fun hHeld => ?_)
          · exact Z1f2
          focus clear hK K; try simp only [Act.put, List.setIfInBounds_toArray, List.set_cons_zero, List.set_cons_succ]
          refine wpAnyH_ready (rs := [8]) Z1f0 (by simp) (ac8 (fun K hK => ?_) (AllReadyH.nil))
          focus go_simp
          focus (refine (mul_ok hwj hfx h1 _).mono ?_; rintro e w2 ⟨rfl, hb2⟩)
          focus try simp only []
          refine hK.out _ _ ?_ (fun hHeld => ?_)
          · exact Z1f2
          focus clear hK K; try simp only [Act.put, List.setIfInBounds_toArray, List.set_cons_zero, List.set_cons_succ]
          iterate 2 (first | refine tk9.go ?_ | refine tk10.go ?_)
          refine wpAnyH_ready (rs := [11]) Z1f0 (by simp) (ac11 (fun K hK => ?_) (AllReadyH.nil))
          focus go_simp
          focus (refine (must64b_ok _ _).mono ?_; rintro e w2 ⟨rfl, hb2⟩)
          focus try simp only []
          refine hK.out _ _ ?_ (fun hHeld => ?_)
          · exact Z1f2
          focus clear hK K; try simp only [Act.put, List.setIfInBounds_toArray, List.set_cons_zero, List.set_cons_succ]
          refine wpAnyH_ready (rs := [12]) Z1f0 (by simp) (ac12 (fun K hK => ?_) (AllReadyH.nil))
          focus go_simp
          focus (refine (add_ok hs h1 h2 _).mono ?_; rintro e w2 ⟨rfl, hb2⟩)
          focus try simp only []
          refine hK.out _ _ ?_ (fun hHeld => ?_)
          · exact Z1f2
          focus clear hK K; try simp only [Act.put, List.setIfInBounds_toArray, List.set_cons_zero, List.set_cons_succ]
          iterate 2 (first | refine tk13.go ?_ | refine tk14.go ?_)
          refine wpAnyH_ready (rs := [15]) Z1f0 (by simp) (ac15 (fun K hK => ?_) (AllReadyH.nil))
          focus go_simp
          focus (refine (must64b_ok _ _).mono ?_; rintro e w2 ⟨rfl, hb2⟩)
          focus try simp only []
          refine hK.out _ _ ?_ (fun hHeld => ?_)
          · exact Z1f2
          focus clear hK K; try simp only [Act.put, List.setIfInBounds_toArray, List.set_cons_zero, List.set_cons_succ]
          refine tk16.go ?_
          refine wpAnyH_done Z1f0 ?_ _; rotate_left 1
          all_goals
            go_wp2
            refine ⟨⟨j + 1, s + wj * f x, hjl, congrArg (Value.int .i64) EW.out, rfl, h2, HLL.out, hHeld.2.2.2⟩, ?_⟩
            rw [EW.out]
            simp only [intOf, Int.toNat_natCast]
            exact meas_lt hjl
        · rw [okI_no h2, Option.bind_none] at hL
          obtain rfl : r = none := hL.symm
          clear hL
          go_wp2_with fail
          refine wp_region_held_drew (S := (fun w' => w'.cell? (aw.add j) = some (.int .i64 wj) ∧ w'.cell? ⟨wr.heap.size, 0, none⟩ = some (.slice B x.f0.length d) ∧ w'.cell? ⟨wr.heap.size, 1, none⟩ = some (.int .i64 x.f1) ∧ Below w.heap.size w w')) Z1f0 ?_ (fun hHeld => ?_)
          · exact Z1f1
          iterate 7 (first | refine tk0.go ?_ | refine tk1.go ?_ | refine tk2.go ?_ | refine tk3.go ?_ | refine tk4.go ?_ | refine tk5.go ?_ | refine tk6.go ?_)
          refine wpAnyH_ready (rs := [7]) Z1f0 (by simp) (ac7 (fun K hK => ?_) (AllReadyH.nil))
          focus go_simp
          focus (refine (HX.out x hmem B d _ HCx.out l' (HBW0.out.trans (hHeld.2.2.2.mono HBW0.out.size)) hHeld.2.2.2).mono ?_; rintro e w2 ⟨rfl, hb2⟩)
          focus try simp only []
          refine hK.out _ _ ?_ (fun hHeld => ?_)
          · exact Z1f2
          focus clear hK K; try simp only [Act.put, List.setIfInBounds_toArray, List.set_cons_zero, List.set_cons_succ]
          refine wpAnyH_ready (rs := [8]) Z1f0 (by simp) (ac8 (fun K hK => ?_) (AllReadyH.nil))
          focus go_simp
          focus (refine (mul_ok hwj hfx h1 _).mono ?_; rintro e w2 ⟨rfl, hb2⟩)
          focus try simp only []
          refine hK.out _ _ ?_ (fun hHeld => ?_)
          · exact Z1f2
          focus clear hK K; try simp only [Act.put, List.setIfInBounds_toArray, List.set_cons_zero, List.set_cons_succ]
          iterate 2 (first | refine tk9.go ?_ | refine tk10.go ?_)
          refine wpAnyH_ready (rs := [11]) Z1f0 (by simp) (ac11 (fun K hK => ?_) (AllReadyH.nil))
          focus go_simp
          focus (refine (must64b_ok _ _).mono ?_; rintro e w2 ⟨rfl, hb2⟩)
          focus try simp only []
          refine hK.out _ _ ?_ (fun hHeld => ?_)
          · exact Z1f2
          focus clear hK K; try simp only [Act.put, List.setIfInBounds_toArray, List.set_cons_zero, List.set_cons_succ]
          refine wpAnyH_ready (rs := [12]) Z1f0 (by simp) (ac12 (fun K hK => ?_) (AllReadyH.nil))
          focus go_simp
          focus (refine (add_no hs h1 h2 _).mono ?_; rintro e w2 ⟨rfl, hb2⟩)
          focus try simp only []
          refine hK.out _ _ ?_ (fun hHeld => ?_)
          · exact Z1f2
          focus clear hK K; try simp only [Act.put, List.setIfInBounds_toArray, List.set_cons_zero, List.set_cons_succ]
          iterate 2 (first | refine tk13.go ?_ | refine tk14.go ?_)
          refine wpAnyH_ready (rs := [15]) Z1f0 (by simp) (ac15 (fun K hK => ?_) (AllReadyH.nil))
          focus go_simp
          · exact Z1f3
      · rw [okI_no h1, Option.bind_none] at hL
        obtain rfl : r = none := hL.symm
        clear hL
        go_wp2_with fail
        refine wp_region_held_drew (S := (fun w' => w'.cell? (aw.add j) = some (.int .i64 wj) ∧ w'.cell? ⟨wr.heap.size, 0, none⟩ = some (.slice B x.f0.length d) ∧ w'.cell? ⟨wr.heap.size, 1, none⟩ = some (.int .i64 x.f1) ∧ Below w.heap.size w w')) Z1f0 ?_ (fun hHeld => ?_)
        · exact Z1f1
        iterate 7 (first | refine tk0.go ?_ | refine tk1.go ?_ | refine tk2.go ?_ | refine tk3.go ?_ | refine tk4.go ?_ | refine tk5.go ?_ | refine tk6.go ?_)
        refine wpAnyH_ready (rs := [7]) Z1f0 (by simp) (ac7 (fun K hK => ?_) (AllReadyH.nil))
        focus go_simp
        focus (refine (HX.out x hmem B d _ HCx.out l' (HBW0.out.trans (hHeld.2.2.2.mono HBW0.out.size)) hHeld.2.2.2).mono ?_; rintro e w2 ⟨rfl, hb2⟩)
        focus try simp only []
        refine hK.out _ _ ?_ (fun hHeld => ?_)
        · exact Z1f2
        focus clear hK K; try simp only [Act.put, List.setIfInBounds_toArray, List.set_cons_zero, List.set_cons_succ]
        refine wpAnyH_ready (rs := [8]) Z1f0 (by simp) (ac8 (fun K hK => ?_) (AllReadyH.nil))
        focus go_simp
        focus (refine (mul_no hwj hfx h1 _).mono ?_; rintro e w2 ⟨rfl, hb2⟩)
        focus try simp only []
        refine hK.out _ _ ?_ (fun hHeld => ?_)
        · exact Z1f2
        focus clear hK K; try simp only [Act.put, List.setIfInBounds_toArray, List.set_cons_zero, List.set_cons_succ]
        iterate 2 (first | refine tk9.go ?_ | refine tk10.go ?_)
        refine wpAnyH_ready (rs := [11]) Z1f0 (by simp) (ac11 (fun K hK => ?_) (AllReadyH.nil))
        focus go_simp
        · exact Z1f3
    · have hjj : j = l.length := by omega
      subst hjj
      rw [List.drop_length, show ws.drop l.length = [] by rw [HL.out, List.drop_length], show weighF [] (([] : List S38).map f) s = some s from rfl] at hL
      obtain rfl : r = some s := hL.symm
      have HBR := Lib.hid hbr
      clear hL hbr
      go_wp2
      go_ret
      exact ⟨rfl, HBR.out⟩


end Go.Proofs.Ytdkbnbebioflaaa.Ln
end

section
/- linear.CheckFarkas's closures. -/
namespace Go.Proofs
theorem Z1i0 {p : Prop} (h : p := by repeat (first | exact Below.refl _ _ | with_reducible assumption | refine Below.alloc ?_ (by first | exact Nat.le_refl _ | (simp; done) | (simp; omega) | omega) _ | refine Below.setCell ?_ (by first | exact Nat.le_refl _ | (simp; done) | (simp; omega) | omega) _ | refine Below.drew ?_ | refine bdrewN ?_ _)) : p := h
end Go.Proofs
namespace Go.Proofs.Ytdkbnbebioflaaa.Ln
open Go.RowKit Go.Proofs.Ytdkbnbebioflaaa.Num Go.Proofs.Ytdkbnbebioflaaa.Given Go.Proofs.Ytdkbnbebioflaaa.Lin Go.Proofs.YtdkbnbebioflaaaW.PrintWords
set_option linter.unusedVariables false
set_option linter.unusedSimpArgs false

theorem farkas1_any (x : Int) (w : World) : Calls Try.prog 23 #[.int .i64 x] w fun e w' => e = .returned (.bool (decide (x < 0))) ∧ Below w.heap.size w w' := by
  go_enter Try.func23, Try.ntmps23
  go_wp2
  go_ret
  exact ⟨rfl, Below.refl _ _⟩
theorem farkas2_any (x : S38) (B : Option Addr) (d : Nat) (nb n : Nat) (w : World) (hn : w.cell? ⟨nb, 0, none⟩ = some (.int .i64 n)) :
    Calls Try.prog 26 #[.agg #[.slice B x.f0.length d, .int .i64 x.f1], .pointer (some ⟨nb, 0, none⟩)] w fun e w' => e = .returned (.bool (!((x.f0.length : Int) == (n : Int)))) ∧ Below w.heap.size w w' := by
  have zn := World.block_lt_of_cell? w _ hn
  simp only at zn
  go_enter Try.func26, Try.ntmps26
  go_wp2
  go_ret
  exact ⟨rfl, Z1i0⟩
theorem may1_any (x : S38) (B : Option Addr) (d : Nat) (nb : Nat) (n : Int) (w : World) (hn : w.cell? ⟨nb, 0, none⟩ = some (.int .i64 n)) :
    Calls Try.prog 53 #[.agg #[.slice B x.f0.length d, .int .i64 x.f1], .pointer (some ⟨nb, 0, none⟩)] w fun e w' => e = .returned (.bool (!((x.f0.length : Int) == n))) ∧ Below w.heap.size w w' := by
  have zn := World.block_lt_of_cell? w _ hn
  simp only at zn
  go_enter Try.func53, Try.ntmps53
  go_wp2
  go_ret
  exact ⟨rfl, Z1i0⟩
theorem farkas32_any (x : S38) (B : Option Addr) (d : Nat) (w : World) :
    Calls Try.prog 30 #[.agg #[.slice B x.f0.length d, .int .i64 x.f1]] w fun e w' => e = .returned (.int .i64 x.f1) ∧ Below w.heap.size w w' := by
  go_enter Try.func30, Try.ntmps30
  go_wp2
  go_ret
  exact ⟨rfl, Z1i0⟩
theorem farkas31_any (x : S38) (B : Option Addr) (d : Nat) (ib i : Nat) (w0 w : World) (hC : (Kd.int .i64).C w0 B x.f0.length x.f0) (hd : x.f0.length ≤ d) (hB : Below w0.heap.size w0 w) (hi : i < x.f0.length) (hn : w.cell? ⟨ib, 0, none⟩ = some (.int .i64 i)) :
    Calls Try.prog 29 #[.agg #[.slice B x.f0.length d, .int .i64 x.f1], .pointer (some ⟨ib, 0, none⟩)] w fun e w' => e = .returned (.int .i64 (x.f0.getD i 0)) ∧ Below w.heap.size w w' := by
  have zn := World.block_lt_of_cell? w _ hn
  simp only at zn
  obtain ⟨ad, e, x0⟩ := el_I hC hi
  have hg : x.f0.getD i 0 = x.f0[i] := by simp [List.getElem?_eq_getElem hi]
  rw [hg]
  have zx := World.block_lt_of_cell? w0 _ x0
  have zw := hB.size
  generalize x.f0[i] = y at *
  replace x0 := (hB.cell (World.block_lt_of_cell? w0 _ x0)).trans x0
  have zx2 : (ad.add i).block < w.heap.size := by omega
  subst e
  clear hB zx zw hg
  go_enter Try.func29, Try.ntmps29
  go_wp2
  go_ret
  exact ⟨rfl, Z1i0⟩

end Go.Proofs.Ytdkbnbebioflaaa.Ln
end
