import Derived.Test.YtmcfcmijopbinaaLnK
import Derived.Test.YtmcfcmijopbinaaLinT
section
/- slices.ContainsFunc at linear's closures. -/
namespace Go.Proofs
theorem Z1b0 {p : Prop} (h : p := by simp [results, Try.results39, go_sem]) : p := h
end Go.Proofs
namespace Go.Proofs.Ytmcfcmijopbinaa.Ln
open Go.RowKit Go.Proofs.Ytmcfcmijopbinaa.Num Go.Proofs.Ytmcfcmijopbinaa.Given Go.Proofs.Ytmcfcmijopbinaa.Lin Go.Proofs.YtmcfcmijopbinaaW.PrintWords
set_option linter.unusedVariables false
set_option linter.unusedSimpArgs false
def findP {α : Type} (p : α → Bool) : List α → Int → Int
 | [], _ => -1
 | x :: l, j => if p x = true then j else findP p l (j + 1)
theorem findP_any {α : Type} (p : α → Bool) : ∀ (l : List α) (j : Int), 0 ≤ j → decide (0 ≤ findP p l j) = l.any p
 | [], j, h => by simp [findP]
 | x :: l, j, h => by
  rw [findP, List.any_cons]
  cases hx : p x with
  | true => rw [if_pos rfl]; simp; exact h
  | false => rw [if_neg (by decide), findP_any p l (j + 1) (by omega), Bool.false_or]
set_option maxHeartbeats 8000000 in
set_option maxRecDepth 100000 in
theorem idxQ (p : S43 → Bool) (l : List S43) (A : Option Addr) (c : Nat) (w0 w : World) (hC : Kd.C k43 w0 A l.length l) (hc : l.length ≤ c) (hB : Below w0.heap.size w0 w)
  (H : ∀ x, x ∈ l → ∀ (W : World), Below w.heap.size w W → Calls Try.prog 57 #[.agg #[.int .i64 x.f0, .int .i64 x.f1]] W fun e w' => e = .returned (.bool (p x)) ∧ Below W.heap.size W w') :
  Calls Try.prog 15 #[.slice A l.length c, .func (.func 57) #[] #[]] w fun e w' => e = .returned (.int .i64 (findP p l 0)) ∧ Below w.heap.size w w' := by
 have HC := Lib.hid hC
 have HB := Lib.hid hB
 have HX := Lib.hid H
 clear hC hB H
 go_enter Try.func15, Try.ntmps15
 go_wp2
 go_loopw [8] (fun v wr => ∃ j : Nat, j ≤ l.length ∧ v = .int .i64 j ∧ findP p l 0 = findP p (l.drop j) j ∧ Below w.heap.size w wr) (fun v _ => l.length - (intOf v).toNat)
 case atStart => exact ⟨0, Nat.zero_le _, rfl, by rw [List.drop_zero]; rfl, Below.refl _ _⟩
 case round =>
  obtain ⟨j, hj, rfl, hL, hbr⟩ := hrel
  by_cases hjl : j < l.length
  ·have hmax := Kd.C_max HC.out
   obtain ⟨ad, e, x0, x1⟩ := el_Q HC.out hjl
   have hbw : Below w0.heap.size w0 wr := HB.out.trans (hbr.mono HB.out.size)
   have hmem : l[j] ∈ l := List.getElem_mem hjl
   rw [List.drop_eq_getElem_cons hjl, findP] at hL
   generalize l[j] = x at *
   replace x0 := (hbw.cell (World.block_lt_of_cell? w0 _ x0)).trans x0
   replace x1 := (hbw.cell (World.block_lt_of_cell? w0 _ x1)).trans x1
   subst e
   have EW := Lib.hid (wrapj (succ_lt hjl hmax))
   have HL := Lib.hid hL
   have HBR := Lib.hid hbr
   clear hL hbr hbw hmax
   cases hxy : p x with
   | true =>
    have hl2 := HL.out
    rw [hxy, if_pos rfl] at hl2
    have HL2 := Lib.hid hl2
    clear hl2 HL
    have hx := HX.out x hmem wr HBR.out
    rw [hxy] at hx
    have HXX := Lib.hid hx
    clear hx
    go_wp2_with fail
    refine HXX.out.mono ?_
    rintro e w5 ⟨rfl, hb5⟩
    have HB5 := Lib.hid (HBR.out.trans (hb5.mono HBR.out.size))
    clear hb5
    go_wp2
    exact bodyPost_ret (v := .int .i64 (j : Int)) (by simp [results, Try.results15, go_sem]) rfl ⟨by rw [HL2.out], HB5.out⟩
   | false =>
    have hl2 := HL.out
    rw [hxy, if_neg (by decide)] at hl2
    have HL2 := Lib.hid hl2
    clear hl2 HL
    have hx := HX.out x hmem wr HBR.out
    rw [hxy] at hx
    have HXX := Lib.hid hx
    clear hx
    go_wp2_with fail
    refine HXX.out.mono ?_
    rintro e w5 ⟨rfl, hb5⟩
    have HB5 := Lib.hid (HBR.out.trans (hb5.mono HBR.out.size))
    clear hb5
    go_wp2
    refine ⟨⟨j + 1, hjl, congrArg (Value.int .i64) EW.out, HL2.out, HB5.out⟩, ?_⟩
    rw [EW.out]
    simp only [intOf, Int.toNat_natCast]
    exact meas_lt hjl
  ·have hjj : j = l.length := by omega
   subst hjj
   rw [List.drop_length, findP] at hL
   go_wp2
   exact bodyPost_ret (v := .int .i64 (-1)) (by simp [results, Try.results15, go_sem]) rfl ⟨by rw [hL], hbr⟩
theorem anyQ (p : S43 → Bool) (l : List S43) (A : Option Addr) (c : Nat) (w0 w : World) (hC : Kd.C k43 w0 A l.length l) (hc : l.length ≤ c) (hB : Below w0.heap.size w0 w)
  (H : ∀ x, x ∈ l → ∀ (W : World), Below w.heap.size w W → Calls Try.prog 57 #[.agg #[.int .i64 x.f0, .int .i64 x.f1]] W fun e w' => e = .returned (.bool (p x)) ∧ Below W.heap.size W w') :
  Calls Try.prog 56 #[.slice A l.length c, .func (.func 57) #[] #[]] w fun e w' => e = .returned (.bool (l.any p)) ∧ Below w.heap.size w w' := by
 have HI := Lib.hid (idxQ p l A c  w0 w hC hc hB H)
 have HP := Lib.hid (findP_any p l 0 (Int.le_refl _))
 clear hC hB H
 go_enter Try.func56, Try.ntmps56
 go_wp2_with fail
 refine HI.out.mono ?_
 rintro e w1 ⟨rfl, hb1⟩
 go_wp2
 go_ret
 exact ⟨by rw [← HP.out]; rfl, hb1⟩
set_option maxHeartbeats 8000000 in
set_option maxRecDepth 100000 in
theorem idxI (p : Int → Bool) (l : List Int) (A : Option Addr) (c : Nat) (w0 w : World) (hC : (Kd.int .i64).C w0 A l.length l) (hc : l.length ≤ c) (hB : Below w0.heap.size w0 w)
  (H : ∀ x, x ∈ l → ∀ (W : World), Below w.heap.size w W → Calls Try.prog 61 #[.int .i64 x] W fun e w' => e = .returned (.bool (p x)) ∧ Below W.heap.size W w') :
  Calls Try.prog 86 #[.slice A l.length c, .func (.func 61) #[] #[]] w fun e w' => e = .returned (.int .i64 (findP p l 0)) ∧ Below w.heap.size w w' := by
 have HC := Lib.hid hC
 have HB := Lib.hid hB
 have HX := Lib.hid H
 clear hC hB H
 go_enter Try.func86, Try.ntmps86
 go_wp2
 go_loopw [8] (fun v wr => ∃ j : Nat, j ≤ l.length ∧ v = .int .i64 j ∧ findP p l 0 = findP p (l.drop j) j ∧ Below w.heap.size w wr) (fun v _ => l.length - (intOf v).toNat)
 case atStart => exact ⟨0, Nat.zero_le _, rfl, by rw [List.drop_zero]; rfl, Below.refl _ _⟩
 case round =>
  obtain ⟨j, hj, rfl, hL, hbr⟩ := hrel
  by_cases hjl : j < l.length
  ·have hmax := Kd.C_max HC.out
   obtain ⟨ad, e, x0⟩ := el_I HC.out hjl
   have hbw : Below w0.heap.size w0 wr := HB.out.trans (hbr.mono HB.out.size)
   have hmem : l[j] ∈ l := List.getElem_mem hjl
   rw [List.drop_eq_getElem_cons hjl, findP] at hL
   generalize l[j] = x at *
   replace x0 := (hbw.cell (World.block_lt_of_cell? w0 _ x0)).trans x0
   subst e
   have EW := Lib.hid (wrapj (succ_lt hjl hmax))
   have HL := Lib.hid hL
   have HBR := Lib.hid hbr
   clear hL hbr hbw hmax
   cases hxy : p x with
   | true =>
    have hl2 := HL.out
    rw [hxy, if_pos rfl] at hl2
    have HL2 := Lib.hid hl2
    clear hl2 HL
    have hx := HX.out x hmem wr HBR.out
    rw [hxy] at hx
    have HXX := Lib.hid hx
    clear hx
    go_wp2_with fail
    refine HXX.out.mono ?_
    rintro e w5 ⟨rfl, hb5⟩
    have HB5 := Lib.hid (HBR.out.trans (hb5.mono HBR.out.size))
    clear hb5
    go_wp2
    exact bodyPost_ret (v := .int .i64 (j : Int)) (by simp [results, Try.results86, go_sem]) rfl ⟨by rw [HL2.out], HB5.out⟩
   | false =>
    have hl2 := HL.out
    rw [hxy, if_neg (by decide)] at hl2
    have HL2 := Lib.hid hl2
    clear hl2 HL
    have hx := HX.out x hmem wr HBR.out
    rw [hxy] at hx
    have HXX := Lib.hid hx
    clear hx
    go_wp2_with fail
    refine HXX.out.mono ?_
    rintro e w5 ⟨rfl, hb5⟩
    have HB5 := Lib.hid (HBR.out.trans (hb5.mono HBR.out.size))
    clear hb5
    go_wp2
    refine ⟨⟨j + 1, hjl, congrArg (Value.int .i64) EW.out, HL2.out, HB5.out⟩, ?_⟩
    rw [EW.out]
    simp only [intOf, Int.toNat_natCast]
    exact meas_lt hjl
  ·have hjj : j = l.length := by omega
   subst hjj
   rw [List.drop_length, findP] at hL
   go_wp2
   exact bodyPost_ret (v := .int .i64 (-1)) (by simp [results, Try.results86, go_sem]) rfl ⟨by rw [hL], hbr⟩
theorem anyI (p : Int → Bool) (l : List Int) (A : Option Addr) (c : Nat) (w0 w : World) (hC : (Kd.int .i64).C w0 A l.length l) (hc : l.length ≤ c) (hB : Below w0.heap.size w0 w)
  (H : ∀ x, x ∈ l → ∀ (W : World), Below w.heap.size w W → Calls Try.prog 61 #[.int .i64 x] W fun e w' => e = .returned (.bool (p x)) ∧ Below W.heap.size W w') :
  Calls Try.prog 62 #[.slice A l.length c, .func (.func 61) #[] #[]] w fun e w' => e = .returned (.bool (l.any p)) ∧ Below w.heap.size w w' := by
 have HI := Lib.hid (idxI p l A c  w0 w hC hc hB H)
 have HP := Lib.hid (findP_any p l 0 (Int.le_refl _))
 clear hC hB H
 go_enter Try.func62, Try.ntmps62
 go_wp2_with fail
 refine HI.out.mono ?_
 rintro e w1 ⟨rfl, hb1⟩
 go_wp2
 go_ret
 exact ⟨by rw [← HP.out]; rfl, hb1⟩
set_option maxHeartbeats 8000000 in
set_option maxRecDepth 100000 in
theorem idxR (p : S25 → Bool) (l : List S25) (A : Option Addr) (c : Nat) (v : Value) (w0 w : World) (hC : Kd.C k25 w0 A l.length l) (hc : l.length ≤ c) (hB : Below w0.heap.size w0 w)
  (H : ∀ x, x ∈ l → ∀ (B : Option Addr) (d : Nat) (W : World), Below w.heap.size w W → Calls Try.prog 63 #[.agg #[.slice B x.f0.length d, .int .i64 x.f1], v] W fun e w' => e = .returned (.bool (p x)) ∧ Below W.heap.size W w') :
  Calls Try.prog 39 #[.slice A l.length c, .func (.func 63) #[] #[v]] w fun e w' => e = .returned (.int .i64 (findP p l 0)) ∧ Below w.heap.size w w' := by
 have HC := Lib.hid hC
 have HB := Lib.hid hB
 have HX := Lib.hid H
 clear hC hB H
 go_enter Try.func39, Try.ntmps39
 go_wp2
 go_loopw [8] (fun v wr => ∃ j : Nat, j ≤ l.length ∧ v = .int .i64 j ∧ findP p l 0 = findP p (l.drop j) j ∧ Below w.heap.size w wr) (fun v _ => l.length - (intOf v).toNat)
 case atStart => exact ⟨0, Nat.zero_le _, rfl, by rw [List.drop_zero]; rfl, Below.refl _ _⟩
 case round =>
  obtain ⟨j, hj, rfl, hL, hbr⟩ := hrel
  by_cases hjl : j < l.length
  ·have hmax := Kd.C_max HC.out
   obtain ⟨ad, B, d, e, x0, x1, l', C'⟩ := el_R HC.out hjl
   have hbw : Below w0.heap.size w0 wr := HB.out.trans (hbr.mono HB.out.size)
   have hmem : l[j] ∈ l := List.getElem_mem hjl
   rw [List.drop_eq_getElem_cons hjl, findP] at hL
   generalize l[j] = x at *
   replace x0 := (hbw.cell (World.block_lt_of_cell? w0 _ x0)).trans x0
   replace x1 := (hbw.cell (World.block_lt_of_cell? w0 _ x1)).trans x1
   subst e
   have EW := Lib.hid (wrapj (succ_lt hjl hmax))
   have HL := Lib.hid hL
   have HBR := Lib.hid hbr
   clear hL hbr hbw hmax
   cases hxy : p x with
   | true =>
    have hl2 := HL.out
    rw [hxy, if_pos rfl] at hl2
    have HL2 := Lib.hid hl2
    clear hl2 HL
    have hx := HX.out x hmem B d wr HBR.out
    rw [hxy] at hx
    have HXX := Lib.hid hx
    clear hx
    go_wp2_with fail
    refine HXX.out.mono ?_
    rintro e w5 ⟨rfl, hb5⟩
    have HB5 := Lib.hid (HBR.out.trans (hb5.mono HBR.out.size))
    clear hb5
    go_wp2
    exact bodyPost_ret (v := .int .i64 (j : Int)) Z1b0 rfl ⟨by rw [HL2.out], HB5.out⟩
   | false =>
    have hl2 := HL.out
    rw [hxy, if_neg (by decide)] at hl2
    have HL2 := Lib.hid hl2
    clear hl2 HL
    have hx := HX.out x hmem B d wr HBR.out
    rw [hxy] at hx
    have HXX := Lib.hid hx
    clear hx
    go_wp2_with fail
    refine HXX.out.mono ?_
    rintro e w5 ⟨rfl, hb5⟩
    have HB5 := Lib.hid (HBR.out.trans (hb5.mono HBR.out.size))
    clear hb5
    go_wp2
    refine ⟨⟨j + 1, hjl, congrArg (Value.int .i64) EW.out, HL2.out, HB5.out⟩, ?_⟩
    rw [EW.out]
    simp only [intOf, Int.toNat_natCast]
    exact meas_lt hjl
  ·have hjj : j = l.length := by omega
   subst hjj
   rw [List.drop_length, findP] at hL
   go_wp2
   exact bodyPost_ret (v := .int .i64 (-1)) Z1b0 rfl ⟨by rw [hL], hbr⟩
theorem anyR (p : S25 → Bool) (l : List S25) (A : Option Addr) (c : Nat) (v : Value) (w0 w : World) (hC : Kd.C k25 w0 A l.length l) (hc : l.length ≤ c) (hB : Below w0.heap.size w0 w)
  (H : ∀ x, x ∈ l → ∀ (B : Option Addr) (d : Nat) (W : World), Below w.heap.size w W → Calls Try.prog 63 #[.agg #[.slice B x.f0.length d, .int .i64 x.f1], v] W fun e w' => e = .returned (.bool (p x)) ∧ Below W.heap.size W w') :
  Calls Try.prog 21 #[.slice A l.length c, .func (.func 63) #[] #[v]] w fun e w' => e = .returned (.bool (l.any p)) ∧ Below w.heap.size w w' := by
 have HI := Lib.hid (idxR p l A c v w0 w hC hc hB H)
 have HP := Lib.hid (findP_any p l 0 (Int.le_refl _))
 clear hC hB H
 go_enter Try.func21, Try.ntmps21
 go_wp2_with fail
 refine HI.out.mono ?_
 rintro e w1 ⟨rfl, hb1⟩
 go_wp2
 go_ret
 exact ⟨by rw [← HP.out]; rfl, hb1⟩
set_option maxHeartbeats 8000000 in
set_option maxRecDepth 100000 in
theorem idxM (p : S25 → Bool) (l : List S25) (A : Option Addr) (c : Nat) (v : Value) (w0 w : World) (hC : Kd.C k25 w0 A l.length l) (hc : l.length ≤ c) (hB : Below w0.heap.size w0 w)
  (H : ∀ x, x ∈ l → ∀ (B : Option Addr) (d : Nat) (W : World), Below w.heap.size w W → Calls Try.prog 42 #[.agg #[.slice B x.f0.length d, .int .i64 x.f1], v] W fun e w' => e = .returned (.bool (p x)) ∧ Below W.heap.size W w') :
  Calls Try.prog 39 #[.slice A l.length c, .func (.func 42) #[] #[v]] w fun e w' => e = .returned (.int .i64 (findP p l 0)) ∧ Below w.heap.size w w' := by
 have HC := Lib.hid hC
 have HB := Lib.hid hB
 have HX := Lib.hid H
 clear hC hB H
 go_enter Try.func39, Try.ntmps39
 go_wp2
 go_loopw [8] (fun v wr => ∃ j : Nat, j ≤ l.length ∧ v = .int .i64 j ∧ findP p l 0 = findP p (l.drop j) j ∧ Below w.heap.size w wr) (fun v _ => l.length - (intOf v).toNat)
 case atStart => exact ⟨0, Nat.zero_le _, rfl, by rw [List.drop_zero]; rfl, Below.refl _ _⟩
 case round =>
  obtain ⟨j, hj, rfl, hL, hbr⟩ := hrel
  by_cases hjl : j < l.length
  ·have hmax := Kd.C_max HC.out
   obtain ⟨ad, B, d, e, x0, x1, l', C'⟩ := el_R HC.out hjl
   have hbw : Below w0.heap.size w0 wr := HB.out.trans (hbr.mono HB.out.size)
   have hmem : l[j] ∈ l := List.getElem_mem hjl
   rw [List.drop_eq_getElem_cons hjl, findP] at hL
   generalize l[j] = x at *
   replace x0 := (hbw.cell (World.block_lt_of_cell? w0 _ x0)).trans x0
   replace x1 := (hbw.cell (World.block_lt_of_cell? w0 _ x1)).trans x1
   subst e
   have EW := Lib.hid (wrapj (succ_lt hjl hmax))
   have HL := Lib.hid hL
   have HBR := Lib.hid hbr
   clear hL hbr hbw hmax
   cases hxy : p x with
   | true =>
    have hl2 := HL.out
    rw [hxy, if_pos rfl] at hl2
    have HL2 := Lib.hid hl2
    clear hl2 HL
    have hx := HX.out x hmem B d wr HBR.out
    rw [hxy] at hx
    have HXX := Lib.hid hx
    clear hx
    go_wp2_with fail
    refine HXX.out.mono ?_
    rintro e w5 ⟨rfl, hb5⟩
    have HB5 := Lib.hid (HBR.out.trans (hb5.mono HBR.out.size))
    clear hb5
    go_wp2
    exact bodyPost_ret (v := .int .i64 (j : Int)) Z1b0 rfl ⟨by rw [HL2.out], HB5.out⟩
   | false =>
    have hl2 := HL.out
    rw [hxy, if_neg (by decide)] at hl2
    have HL2 := Lib.hid hl2
    clear hl2 HL
    have hx := HX.out x hmem B d wr HBR.out
    rw [hxy] at hx
    have HXX := Lib.hid hx
    clear hx
    go_wp2_with fail
    refine HXX.out.mono ?_
    rintro e w5 ⟨rfl, hb5⟩
    have HB5 := Lib.hid (HBR.out.trans (hb5.mono HBR.out.size))
    clear hb5
    go_wp2
    refine ⟨⟨j + 1, hjl, congrArg (Value.int .i64) EW.out, HL2.out, HB5.out⟩, ?_⟩
    rw [EW.out]
    simp only [intOf, Int.toNat_natCast]
    exact meas_lt hjl
  ·have hjj : j = l.length := by omega
   subst hjj
   rw [List.drop_length, findP] at hL
   go_wp2
   exact bodyPost_ret (v := .int .i64 (-1)) Z1b0 rfl ⟨by rw [hL], hbr⟩
theorem anyM (p : S25 → Bool) (l : List S25) (A : Option Addr) (c : Nat) (v : Value) (w0 w : World) (hC : Kd.C k25 w0 A l.length l) (hc : l.length ≤ c) (hB : Below w0.heap.size w0 w)
  (H : ∀ x, x ∈ l → ∀ (B : Option Addr) (d : Nat) (W : World), Below w.heap.size w W → Calls Try.prog 42 #[.agg #[.slice B x.f0.length d, .int .i64 x.f1], v] W fun e w' => e = .returned (.bool (p x)) ∧ Below W.heap.size W w') :
  Calls Try.prog 21 #[.slice A l.length c, .func (.func 42) #[] #[v]] w fun e w' => e = .returned (.bool (l.any p)) ∧ Below w.heap.size w w' := by
 have HI := Lib.hid (idxM p l A c v w0 w hC hc hB H)
 have HP := Lib.hid (findP_any p l 0 (Int.le_refl _))
 clear hC hB H
 go_enter Try.func21, Try.ntmps21
 go_wp2_with fail
 refine HI.out.mono ?_
 rintro e w1 ⟨rfl, hb1⟩
 go_wp2
 go_ret
 exact ⟨by rw [← HP.out]; rfl, hb1⟩
end Go.Proofs.Ytmcfcmijopbinaa.Ln
end

section
/- Plain: whole.Solve's search, and what it answers. -/
namespace Go.Proofs.Ytmcfcmijopbinaa.Lin
open Go.RowKit Go.Proofs.Ytmcfcmijopbinaa.Given Go.Proofs.Ytmcfcmijopbinaa.Num Go.Proofs.Ytmcfcmijopbinaa.Sim
set_option linter.unusedVariables false
def bnd (vars i : Nat) (s k : Int) : RowZ := ((List.replicate vars 0).set i s, k)
def fracI (p : List Rat) : Option Nat := p.findIdx? (fun x => decide (x.den ≠ 1))
def srch (vars : Int) : Nat → Nat → List RowZ → Int × Nat × List Int
 | 0, f, _ => (0, f, [])
 | _ + 1, 0, _ => (0, 0, [])
 | d + 1, f + 1, rows =>
  if (solve rows vars 10000).1 = 1 then
   match fracI (solve rows vars 10000).2.1 with
   | none => (1, f, (solve rows vars 10000).2.1.map (·.num))
   | some i =>
    if (srch vars d f (rows ++ [bnd vars.toNat i 1 (-(rdQ (solve rows vars 10000).2.1 i).floor)])).1 = 1 then srch vars d f (rows ++ [bnd vars.toNat i 1 (-(rdQ (solve rows vars 10000).2.1 i).floor)])
    else if (srch vars d (srch vars d f (rows ++ [bnd vars.toNat i 1 (-(rdQ (solve rows vars 10000).2.1 i).floor)])).2.1 (rows ++ [bnd vars.toNat i (-1) (rdQ (solve rows vars 10000).2.1 i).ceil])).1 = 1 ∨ (srch vars d f (rows ++ [bnd vars.toNat i 1 (-(rdQ (solve rows vars 10000).2.1 i).floor)])).1 = (srch vars d (srch vars d f (rows ++ [bnd vars.toNat i 1 (-(rdQ (solve rows vars 10000).2.1 i).floor)])).2.1 (rows ++ [bnd vars.toNat i (-1) (rdQ (solve rows vars 10000).2.1 i).ceil])).1 then
     srch vars d (srch vars d f (rows ++ [bnd vars.toNat i 1 (-(rdQ (solve rows vars 10000).2.1 i).floor)])).2.1 (rows ++ [bnd vars.toNat i (-1) (rdQ (solve rows vars 10000).2.1 i).ceil])
    else (0, (srch vars d (srch vars d f (rows ++ [bnd vars.toNat i 1 (-(rdQ (solve rows vars 10000).2.1 i).floor)])).2.1 (rows ++ [bnd vars.toNat i (-1) (rdQ (solve rows vars 10000).2.1 i).ceil])).2.1, [])
  else ((solve rows vars 10000).1, f, [])
theorem srch_step (vars : Int) (d f : Nat) (rows : List RowZ) {s : Int × List Rat × List Int} (hs : solve rows vars 10000 = s) :
  (s.1 ≠ 1 ∧ srch vars (d + 1) (f + 1) rows = (s.1, f, [])) ∨ (s.1 = 1 ∧ fracI s.2.1 = none ∧ srch vars (d + 1) (f + 1) rows = (1, f, s.2.1.map (·.num))) ∨
  ∃ i a b, s.1 = 1 ∧ fracI s.2.1 = some i ∧ srch vars d f (rows ++ [bnd vars.toNat i 1 (-(rdQ s.2.1 i).floor)]) = a ∧ srch vars d a.2.1 (rows ++ [bnd vars.toNat i (-1) (rdQ s.2.1 i).ceil]) = b ∧
   ((a.1 = 1 ∧ srch vars (d + 1) (f + 1) rows = a) ∨ (a.1 ≠ 1 ∧ (b.1 = 1 ∨ a.1 = b.1) ∧ srch vars (d + 1) (f + 1) rows = b) ∨ (a.1 ≠ 1 ∧ ¬ (b.1 = 1 ∨ a.1 = b.1) ∧ srch vars (d + 1) (f + 1) rows = (0, b.2.1, []))) := by
 subst hs
 by_cases h1 : (solve rows vars 10000).1 = 1
 ·cases h2 : fracI (solve rows vars 10000).2.1 with
  | none => exact .inr (.inl ⟨h1, rfl, by rw [srch, if_pos h1, h2]⟩)
  | some i =>
   refine .inr (.inr ⟨i, _, _, h1, rfl, rfl, rfl, ?_⟩)
   by_cases h3 : (srch vars d f (rows ++ [bnd vars.toNat i 1 (-(rdQ (solve rows vars 10000).2.1 i).floor)])).1 = 1
   ·exact .inl ⟨h3, by rw [srch, if_pos h1, h2]; dsimp only; rw [if_pos h3]⟩
   ·by_cases h4 : (srch vars d (srch vars d f (rows ++ [bnd vars.toNat i 1 (-(rdQ (solve rows vars 10000).2.1 i).floor)])).2.1 (rows ++ [bnd vars.toNat i (-1) (rdQ (solve rows vars 10000).2.1 i).ceil])).1 = 1 ∨ (srch vars d f (rows ++ [bnd vars.toNat i 1 (-(rdQ (solve rows vars 10000).2.1 i).floor)])).1 = (srch vars d (srch vars d f (rows ++ [bnd vars.toNat i 1 (-(rdQ (solve rows vars 10000).2.1 i).floor)])).2.1 (rows ++ [bnd vars.toNat i (-1) (rdQ (solve rows vars 10000).2.1 i).ceil])).1
    ·exact .inr (.inl ⟨h3, h4, by rw [srch, if_pos h1, h2]; dsimp only; rw [if_neg h3, if_pos h4]⟩)
    ·exact .inr (.inr ⟨h3, h4, by rw [srch, if_pos h1, h2]; dsimp only; rw [if_neg h3, if_neg h4]⟩)
 ·exact .inl ⟨h1, by rw [srch, if_neg h1]⟩
theorem srch_fuel (vars : Int) : ∀ (d f : Nat) (rows : List RowZ), (srch vars d f rows).2.1 ≤ f
 | 0, f, rows => Nat.le_refl _
 | d + 1, 0, rows => Nat.le_refl _
 | d + 1, f + 1, rows => by
  rcases srch_step vars d f rows rfl with ⟨-, h⟩ | ⟨-, -, h⟩ | ⟨i, a, b, -, -, ha, hb, h⟩
  ·rw [h]; exact Nat.le_succ f
  ·rw [h]; exact Nat.le_succ f
  ·have h1 := srch_fuel vars d f (rows ++ [bnd vars.toNat i 1 (-(rdQ (solve rows vars 10000).2.1 i).floor)])
   have h2 := srch_fuel vars d a.2.1 (rows ++ [bnd vars.toNat i (-1) (rdQ (solve rows vars 10000).2.1 i).ceil])
   rw [ha] at h1
   rw [hb] at h2
   rcases h with ⟨-, h⟩ | ⟨-, -, h⟩ | ⟨-, -, h⟩ <;> rw [h] <;> (try dsimp only) <;> omega
theorem pt_app {a b : List RowZ} {n : Nat} {x : Nat → Rat} : Pt (a ++ b) n x ↔ Pt a n x ∧ Pt b n x := by
 have ga : ∀ j, j < a.length → (a ++ b).getD j ([], 0) = a.getD j ([], 0) := fun j hj => by
  rw [List.getD_eq_getElem?_getD, List.getD_eq_getElem?_getD, List.getElem?_append_left hj]
 have gb : ∀ j, (a ++ b).getD (a.length + j) ([], 0) = b.getD j ([], 0) := fun j => by
  rw [List.getD_eq_getElem?_getD, List.getD_eq_getElem?_getD, List.getElem?_append_right (Nat.le_add_right _ _), Nat.add_sub_cancel_left]
 constructor
 ·intro h
  refine ⟨fun j hj => ?_, fun j hj => ?_⟩
  ·have := h j (by rw [List.length_append]; omega)
   unfold cz kz at this ⊢
   rwa [ga j hj] at this
  ·have := h (a.length + j) (by rw [List.length_append]; omega)
   unfold cz kz at this ⊢
   rwa [gb j] at this
 ·rintro ⟨h1, h2⟩ j hj
  rw [List.length_append] at hj
  by_cases hlt : j < a.length
  ·have := h1 j hlt
   unfold cz kz at this ⊢
   rwa [ga j hlt]
  ·have := h2 (j - a.length) (by omega)
   have e : a.length + (j - a.length) = j := by omega
   unfold cz kz at this ⊢
   rwa [← gb, e] at this
theorem pt_one {r : RowZ} {n : Nat} {x : Nat → Rat} : Pt [r] n x ↔ sumN n (fun k => ((r.1.getD k 0 : Int) : Rat) * x k) + (r.2 : Rat) ≤ 0 := by
 constructor
 ·intro h; exact h 0 (Nat.zero_lt_one)
 ·intro h j hj
  obtain rfl : j = 0 := by simpa using hj
  exact h
theorem pt_bnd {vars i : Nat} (hi : i < vars) {s k : Int} {x : Nat → Rat} : Pt [bnd vars i s k] vars x ↔ (s : Rat) * x i + (k : Rat) ≤ 0 := by
 rw [pt_one]
 have e : sumN vars (fun j => (((bnd vars i s k).1.getD j 0 : Int) : Rat) * x j) = (s : Rat) * x i := by
  have := sumN_one i (fun j => (s : Rat) * x j) vars
  rw [if_pos hi] at this
  rw [← this]
  refine sumN_congr fun j hj => ?_
  unfold bnd
  dsimp only
  rw [List.getD_eq_getElem?_getD, List.getElem?_set]
  by_cases e : i = j
  ·subst e; simp [hi]
  ·rw [if_neg e, if_neg (fun h => e h.symm)]
   simp [hj]
 rw [e]; rfl
theorem frac_some {p : List Rat} {i : Nat} (h : fracI p = some i) : i < p.length ∧ (rdQ p i).den ≠ 1 := by
 unfold fracI at h
 rw [List.findIdx?_eq_some_iff_getElem] at h
 obtain ⟨hi, h1, -⟩ := h
 refine ⟨hi, ?_⟩
 have e : rdQ p i = p[i] := by unfold rdQ; simp [List.getElem?_eq_getElem hi]
 rw [e]; simpa using h1
theorem frac_none {p : List Rat} (h : fracI p = none) : ∀ x, x ∈ p → x.den = 1 := by
 unfold fracI at h
 rw [List.findIdx?_eq_none_iff] at h
 intro x hx
 have := h x hx
 simpa using this
theorem floor_lt {x : Rat} (h : x.den ≠ 1) : (x.floor : Rat) < x := by
 have h1 := Rat.floor_le x
 by_cases h2 : (x.floor : Rat) = x
 ·exact (h (by rw [← h2]; rfl)).elim
 ·grind
theorem ceil_floor {x : Rat} (h : x.den ≠ 1) : x.ceil = x.floor + 1 := by
 rw [Rat.floor_def]
 unfold Rat.ceil
 rw [if_neg h]
theorem num_den1 {x : Rat} (h : x.den = 1) : (x.num : Rat) = x := by
 apply Rat.ext
 ·rfl
 ·rw [h]; rfl
theorem gap {x : Rat} (h : x.den ≠ 1) (p : Int) : (1 : Rat) * (p : Rat) + ((-x.floor : Int) : Rat) ≤ 0 ∨ ((-1 : Int) : Rat) * (p : Rat) + ((x.ceil : Int) : Rat) ≤ 0 := by
 rw [ceil_floor h]
 rcases Int.lt_or_le x.floor p with hp | hp
 ·right
  have h1 : x.floor + 1 ≤ p := hp
  have := Rat.intCast_le_intCast.2 h1
  rw [Rat.intCast_neg]
  grind
 ·left
  have := Rat.intCast_le_intCast.2 hp
  rw [Rat.intCast_neg]
  grind
theorem solve_may' {z : List RowZ} {v f : Int} (h : mayQ z v = false) : solve z v f = (0, [], []) := by
 unfold solve; rw [if_neg (by rw [h]; decide)]
theorem solve_lens {z : List RowZ} {v f : Int} (h : (solve z v f).1 ≠ 0) : 0 ≤ v ∧ ∀ r, r ∈ z → r.1.length = v.toNat := by
 cases hm : mayQ z v with
 | false => rw [solve_may' hm] at h; exact (h rfl).elim
 | true =>
  unfold mayQ at hm
  simp only [Bool.and_eq_true, decide_eq_true_eq, List.all_eq_true] at hm
  refine ⟨hm.1.1.1, fun r hr => ?_⟩
  have := hm.2 r hr
  omega
theorem solve_ok (z : List RowZ) (v f : Int) : ((solve z v f).1 = 1 → checkPoint z (solve z v f).2.1 = true) ∧ ((solve z v f).1 = 2 → checkFarkas z (solve z v f).2.2 = true) := by
 unfold solve
 by_cases hm : mayQ z v = true
 ·rw [if_pos hm]
  cases (made z v.toNat).bind (loop v.toNat f.toNat) with
  | none => exact ⟨(fun h => by cases h), (fun h => by cases h)⟩
  | some s =>
   obtain ⟨a, p, w⟩ := s
   dsimp only
   split
   ·exact ⟨(fun h => by cases h), (fun h => by cases h)⟩
   ·rename_i hc
    refine ⟨fun h => ?_, fun h => ?_⟩
    ·cases hp : checkPoint z p with
     | true => rfl
     | false => exact (hc (.inl ⟨h, hp⟩)).elim
    ·cases hp : checkFarkas z w with
     | true => rfl
     | false => exact (hc (.inr ⟨h, hp⟩)).elim
 ·rw [if_neg hm]; exact ⟨(fun h => by cases h), (fun h => by cases h)⟩
theorem solve_empty (v f : Int) : ∀ x, x ∈ (solve [] v f).2.1 → x.den = 1 := by
 intro x hx
 unfold solve at hx
 by_cases hm : mayQ [] v = true
 ·rw [if_pos hm] at hx
  have h1 : (made [] v.toNat).bind (loop v.toNat f.toNat) = some (1, List.replicate v.toNat 0, []) := by
   simp only [made, limF, Option.bind_some, List.length_nil, List.range_zero, List.map_nil, Nat.add_zero]
   unfold loop
   have hw : wrong v.toNat (⟨[], [], List.replicate v.toNat 0, []⟩ : Tab) = none := rfl
   rw [hw]
   simp
  rw [h1] at hx
  dsimp only at hx
  split at hx
  ·cases hx
  ·rw [List.eq_of_mem_replicate hx]; rfl
 ·rw [if_neg hm] at hx; cases hx
theorem frac_lt {vars : Int} {rows : List RowZ} {i : Nat} (h1 : (solve rows vars 10000).1 = 1) (hf : fracI (solve rows vars 10000).2.1 = some i) : i < vars.toNat := by
 obtain ⟨hi, hd⟩ := frac_some hf
 cases rows with
 | nil =>
  refine (hd (solve_empty vars 10000 _ ?_)).elim
  have e : rdQ (solve [] vars 10000).2.1 i = (solve [] vars 10000).2.1[i] := by unfold rdQ; simp [List.getElem?_eq_getElem hi]
  rw [e]; exact List.getElem_mem hi
 | cons r l =>
  have h2 := (point_true ((solve_ok (r :: l) vars 10000).1 h1) 0 (Nat.succ_pos _)).1
  have h3 := (solve_lens (z := r :: l) (v := vars) (f := 10000) (by rw [h1]; decide)).2 r (List.mem_cons_self ..)
  have e : ((r :: l).getD 0 ([], 0)) = r := rfl
  rw [e] at h2
  omega
theorem srch_no (vars : Int) : ∀ (d f : Nat) (rows : List RowZ), (srch vars d f rows).1 = 2 → ∀ p : Nat → Int, ¬ Pt rows vars.toNat (fun k => (p k : Rat))
 | 0, f, rows, h => by cases h
 | d + 1, 0, rows, h => by cases h
 | d + 1, f + 1, rows, h => by
  intro p hp
  rcases srch_step vars d f rows rfl with ⟨-, e⟩ | ⟨-, -, e⟩ | ⟨i, a, b, h1, hfr, ha, hb, e⟩
  ·rw [e] at h
   exact farkas_none (solve_lens (f := 10000) (v := vars) (z := rows) (by rw [h]; decide)).2 ((solve_ok rows vars 10000).2 h) _ hp
  ·rw [e] at h; cases h
  ·obtain ⟨hil, hden⟩ := frac_some hfr
   have hv := frac_lt h1 hfr
   have h22 : a.1 = 2 ∧ b.1 = 2 := by
    rcases e with ⟨e1, e⟩ | ⟨e1, e2, e⟩ | ⟨-, -, e⟩
    ·rw [e] at h; omega
    ·rw [e] at h; exact ⟨by omega, h⟩
    ·rw [e] at h; cases h
   rcases gap hden (p i) with hg | hg
   ·refine srch_no vars d f _ (by rw [ha]; exact h22.1) p (pt_app.2 ⟨hp, (pt_bnd hv).2 ?_⟩)
    rw [show ((1 : Int) : Rat) = 1 from rfl]; exact hg
   ·exact srch_no vars d a.2.1 _ (by rw [hb]; exact h22.2) p (pt_app.2 ⟨hp, (pt_bnd hv).2 hg⟩)
theorem srch_yes (vars : Int) : ∀ (d f : Nat) (rows : List RowZ), (srch vars d f rows).1 = 1 → (rows ≠ [] → (srch vars d f rows).2.2.length = vars.toNat) ∧ Pt rows vars.toNat (fun k => (((srch vars d f rows).2.2.getD k 0 : Int) : Rat))
 | 0, f, rows, h => by cases h
 | d + 1, 0, rows, h => by cases h
 | d + 1, f + 1, rows, h => by
  rcases srch_step vars d f rows rfl with ⟨h1, e⟩ | ⟨h1, hfr, e⟩ | ⟨i, a, b, h1, hfr, ha, hb, e⟩
  ·rw [e] at h; exact (h1 h).elim
  ·rw [e]
   have hden := frac_none hfr
   have hpt := point_true ((solve_ok rows vars 10000).1 h1)
   have hl := (solve_lens (z := rows) (v := vars) (f := 10000) (by rw [h1]; decide)).2
   have hlen : rows ≠ [] → (solve rows vars 10000).2.1.length = vars.toNat := fun hne => by
    have h0 : 0 < rows.length := List.length_pos_iff.2 hne
    have h2 := (hpt 0 h0).1
    rw [row_get h0] at h2
    rw [← h2, hl _ (List.getElem_mem h0)]
   refine ⟨fun hne => by rw [List.length_map]; exact hlen hne, fun j hj => ?_⟩
   have hne : rows ≠ [] := by rintro rfl; exact absurd hj (Nat.not_lt_zero _)
   have h3 := (hpt j hj).2
   rw [hlen hne] at h3
   have e2 : sumN vars.toNat (fun k => (cz rows j k : Rat) * ((((solve rows vars 10000).2.1.map (·.num)).getD k 0 : Int) : Rat)) = sumN vars.toNat (fun k => (cz rows j k : Rat) * rdQ (solve rows vars 10000).2.1 k) := by
    refine sumN_congr fun k hk => ?_
    have hk2 : k < (solve rows vars 10000).2.1.length := by rw [hlen hne]; exact hk
    have e3 : rdQ (solve rows vars 10000).2.1 k = (solve rows vars 10000).2.1[k] := by unfold rdQ; simp [List.getElem?_eq_getElem hk2]
    rw [e3, List.getD_eq_getElem?_getD, List.getElem?_map, List.getElem?_eq_getElem hk2]
    have := num_den1 (hden _ (List.getElem_mem hk2))
    simp [this]
   dsimp only
   rw [e2]
   grind
  ·have hrec : ∀ (g : Nat) (r : RowZ) (q : Int × Nat × List Int), srch vars d g (rows ++ [r]) = q → q.1 = 1 → (rows ≠ [] → q.2.2.length = vars.toNat) ∧ Pt rows vars.toNat (fun k => ((q.2.2.getD k 0 : Int) : Rat)) := fun g r q hq h1 => by
    subst hq
    have := srch_yes vars d g (rows ++ [r]) h1
    exact ⟨fun _ => this.1 (by simp), (pt_app.1 this.2).1⟩
   rcases e with ⟨e1, e⟩ | ⟨e1, e2, e⟩ | ⟨-, -, e⟩
   ·rw [e]; exact hrec _ _ _ ha e1
   ·rw [e] at h ⊢; exact hrec _ _ _ hb h
   ·rw [e] at h; cases h
end Go.Proofs.Ytmcfcmijopbinaa.Lin
end

section
/- slices.IndexFunc, ContainsFunc at whole's closures. -/
namespace Go.Proofs.Ytmcfcmijopbinaa.Ln
open Go.RowKit Go.Proofs.Ytmcfcmijopbinaa.Num Go.Proofs.Ytmcfcmijopbinaa.Given Go.Proofs.Ytmcfcmijopbinaa.Lin Go.Proofs.YtmcfcmijopbinaaW.PrintWords
set_option linter.unusedVariables false
set_option linter.unusedSimpArgs false
set_option maxHeartbeats 8000000 in
set_option maxRecDepth 100000 in
theorem idxW (p : S43 → Bool) (l : List S43) (A : Option Addr) (c : Nat) (w0 w : World) (hC : Kd.C k43 w0 A l.length l) (hc : l.length ≤ c) (hB : Below w0.heap.size w0 w)
  (H : ∀ x, x ∈ l → ∀ (W : World), Below w.heap.size w W → Calls Try.prog 16 #[.agg #[.int .i64 x.f0, .int .i64 x.f1]] W fun e w' => e = .returned (.bool (p x)) ∧ Below W.heap.size W w') :
  Calls Try.prog 15 #[.slice A l.length c, .func (.func 16) #[] #[]] w fun e w' => e = .returned (.int .i64 (findP p l 0)) ∧ Below w.heap.size w w' := by
 have HC := Lib.hid hC
 have HB := Lib.hid hB
 have HX := Lib.hid H
 clear hC hB H
 go_enter Try.func15, Try.ntmps15
 go_wp2
 go_loopw [8] (fun v wr => ∃ j : Nat, j ≤ l.length ∧ v = .int .i64 j ∧ findP p l 0 = findP p (l.drop j) j ∧ Below w.heap.size w wr) (fun v _ => l.length - (intOf v).toNat)
 case atStart => exact ⟨0, Nat.zero_le _, rfl, by rw [List.drop_zero]; rfl, Below.refl _ _⟩
 case round =>
  obtain ⟨j, hj, rfl, hL, hbr⟩ := hrel
  by_cases hjl : j < l.length
  ·have hmax := Kd.C_max HC.out
   obtain ⟨ad, e, x0, x1⟩ := el_Q HC.out hjl
   have hbw : Below w0.heap.size w0 wr := HB.out.trans (hbr.mono HB.out.size)
   have hmem : l[j] ∈ l := List.getElem_mem hjl
   rw [List.drop_eq_getElem_cons hjl, findP] at hL
   generalize l[j] = x at *
   replace x0 := (hbw.cell (World.block_lt_of_cell? w0 _ x0)).trans x0
   replace x1 := (hbw.cell (World.block_lt_of_cell? w0 _ x1)).trans x1
   subst e
   have EW := Lib.hid (wrapj (succ_lt hjl hmax))
   have HL := Lib.hid hL
   have HBR := Lib.hid hbr
   clear hL hbr hbw hmax
   cases hxy : p x with
   | true =>
    have hl2 := HL.out
    rw [hxy, if_pos rfl] at hl2
    have HL2 := Lib.hid hl2
    clear hl2 HL
    have hx := HX.out x hmem wr HBR.out
    rw [hxy] at hx
    have HXX := Lib.hid hx
    clear hx
    go_wp2_with fail
    refine HXX.out.mono ?_
    rintro e w5 ⟨rfl, hb5⟩
    have HB5 := Lib.hid (HBR.out.trans (hb5.mono HBR.out.size))
    clear hb5
    go_wp2
    exact bodyPost_ret (v := .int .i64 (j : Int)) (by simp [results, Try.results15, go_sem]) rfl ⟨by rw [HL2.out], HB5.out⟩
   | false =>
    have hl2 := HL.out
    rw [hxy, if_neg (by decide)] at hl2
    have HL2 := Lib.hid hl2
    clear hl2 HL
    have hx := HX.out x hmem wr HBR.out
    rw [hxy] at hx
    have HXX := Lib.hid hx
    clear hx
    go_wp2_with fail
    refine HXX.out.mono ?_
    rintro e w5 ⟨rfl, hb5⟩
    have HB5 := Lib.hid (HBR.out.trans (hb5.mono HBR.out.size))
    clear hb5
    go_wp2
    refine ⟨⟨j + 1, hjl, congrArg (Value.int .i64) EW.out, HL2.out, HB5.out⟩, ?_⟩
    rw [EW.out]
    simp only [intOf, Int.toNat_natCast]
    exact meas_lt hjl
  ·have hjj : j = l.length := by omega
   subst hjj
   rw [List.drop_length, findP] at hL
   go_wp2
   exact bodyPost_ret (v := .int .i64 (-1)) (by simp [results, Try.results15, go_sem]) rfl ⟨by rw [hL], hbr⟩
set_option maxHeartbeats 8000000 in
set_option maxRecDepth 100000 in
theorem idxC (p : S25 → Bool) (l : List S25) (A : Option Addr) (c : Nat) (v : Value) (w0 w : World) (hC : Kd.C k25 w0 A l.length l) (hc : l.length ≤ c) (hB : Below w0.heap.size w0 w)
  (H : ∀ x, x ∈ l → ∀ (B : Option Addr) (d : Nat) (_ : x.f0.length ≤ d) (_ : (Kd.int .i64).C w0 B x.f0.length x.f0) (W : World), Below w.heap.size w W → Calls Try.prog 22 #[.agg #[.slice B x.f0.length d, .int .i64 x.f1], v] W fun e w' => e = .returned (.bool (p x)) ∧ Below W.heap.size W w') :
  Calls Try.prog 39 #[.slice A l.length c, .func (.func 22) #[] #[v]] w fun e w' => e = .returned (.int .i64 (findP p l 0)) ∧ Below w.heap.size w w' := by
 have HC := Lib.hid hC
 have HB := Lib.hid hB
 have HX := Lib.hid H
 clear hC hB H
 go_enter Try.func39, Try.ntmps39
 go_wp2
 go_loopw [8] (fun v wr => ∃ j : Nat, j ≤ l.length ∧ v = .int .i64 j ∧ findP p l 0 = findP p (l.drop j) j ∧ Below w.heap.size w wr) (fun v _ => l.length - (intOf v).toNat)
 case atStart => exact ⟨0, Nat.zero_le _, rfl, by rw [List.drop_zero]; rfl, Below.refl _ _⟩
 case round =>
  obtain ⟨j, hj, rfl, hL, hbr⟩ := hrel
  by_cases hjl : j < l.length
  ·have hmax := Kd.C_max HC.out
   obtain ⟨ad, B, d, e, x0, x1, l', C'⟩ := el_R HC.out hjl
   have hbw : Below w0.heap.size w0 wr := HB.out.trans (hbr.mono HB.out.size)
   have hmem : l[j] ∈ l := List.getElem_mem hjl
   rw [List.drop_eq_getElem_cons hjl, findP] at hL
   generalize l[j] = x at *
   replace x0 := (hbw.cell (World.block_lt_of_cell? w0 _ x0)).trans x0
   replace x1 := (hbw.cell (World.block_lt_of_cell? w0 _ x1)).trans x1
   subst e
   have EW := Lib.hid (wrapj (succ_lt hjl hmax))
   have HL := Lib.hid hL
   have HBR := Lib.hid hbr
   clear hL hbr hbw hmax
   cases hxy : p x with
   | true =>
    have hl2 := HL.out
    rw [hxy, if_pos rfl] at hl2
    have HL2 := Lib.hid hl2
    clear hl2 HL
    have hx := HX.out x hmem B d l' C' wr HBR.out
    rw [hxy] at hx
    have HXX := Lib.hid hx
    clear hx
    go_wp2_with fail
    refine HXX.out.mono ?_
    rintro e w5 ⟨rfl, hb5⟩
    have HB5 := Lib.hid (HBR.out.trans (hb5.mono HBR.out.size))
    clear hb5
    go_wp2
    exact bodyPost_ret (v := .int .i64 (j : Int)) (by simp [results, Try.results39, go_sem]) rfl ⟨by rw [HL2.out], HB5.out⟩
   | false =>
    have hl2 := HL.out
    rw [hxy, if_neg (by decide)] at hl2
    have HL2 := Lib.hid hl2
    clear hl2 HL
    have hx := HX.out x hmem B d l' C' wr HBR.out
    rw [hxy] at hx
    have HXX := Lib.hid hx
    clear hx
    go_wp2_with fail
    refine HXX.out.mono ?_
    rintro e w5 ⟨rfl, hb5⟩
    have HB5 := Lib.hid (HBR.out.trans (hb5.mono HBR.out.size))
    clear hb5
    go_wp2
    refine ⟨⟨j + 1, hjl, congrArg (Value.int .i64) EW.out, HL2.out, HB5.out⟩, ?_⟩
    rw [EW.out]
    simp only [intOf, Int.toNat_natCast]
    exact meas_lt hjl
  ·have hjj : j = l.length := by omega
   subst hjj
   rw [List.drop_length, findP] at hL
   go_wp2
   exact bodyPost_ret (v := .int .i64 (-1)) (by simp [results, Try.results39, go_sem]) rfl ⟨by rw [hL], hbr⟩
theorem anyC (p : S25 → Bool) (l : List S25) (A : Option Addr) (c : Nat) (v : Value) (w0 w : World) (hC : Kd.C k25 w0 A l.length l) (hc : l.length ≤ c) (hB : Below w0.heap.size w0 w)
  (H : ∀ x, x ∈ l → ∀ (B : Option Addr) (d : Nat) (_ : x.f0.length ≤ d) (_ : (Kd.int .i64).C w0 B x.f0.length x.f0) (W : World), Below w.heap.size w W → Calls Try.prog 22 #[.agg #[.slice B x.f0.length d, .int .i64 x.f1], v] W fun e w' => e = .returned (.bool (p x)) ∧ Below W.heap.size W w') :
  Calls Try.prog 21 #[.slice A l.length c, .func (.func 22) #[] #[v]] w fun e w' => e = .returned (.bool (l.any p)) ∧ Below w.heap.size w w' := by
 have HI := Lib.hid (idxC p l A c v w0 w hC hc hB H)
 have HP := Lib.hid (findP_any p l 0 (Int.le_refl _))
 clear hC hB H
 go_enter Try.func21, Try.ntmps21
 go_wp2_with fail
 refine HI.out.mono ?_
 rintro e w1 ⟨rfl, hb1⟩
 go_wp2
 go_ret
 exact ⟨by rw [← HP.out]; rfl, hb1⟩
end Go.Proofs.Ytmcfcmijopbinaa.Ln
end
