import Derived.Test.YtbpjnkeilhfajaaGreatLnC
section
/- slices.ContainsFunc at linear's closures. -/
namespace Go.Proofs
theorem Z1f0 {p : Prop} (h : p := by simp [results, Tryz.results92, go_sem]) : p := h
end Go.Proofs
namespace Go.Proofs.YtbpjnkeilhfajaaGreat.Ln
open Go.RowKit Go.Proofs.YtbpjnkeilhfajaaGreat.Num Go.Proofs.YtbpjnkeilhfajaaGreat.Given Go.Proofs.YtbpjnkeilhfajaaGreat.Lin Go.Proofs.YtbpjnkeilhfajaaGreatW.PrintWords
set_option linter.unusedVariables false
set_option linter.unusedSimpArgs false
def findP {α : Type} (p : α → Bool) : List α → Int → Int
 | [], _ => -1
 | x :: l, j => if p x = true then j else findP p l (j + 1)
theorem findP_any {α : Type} (p : α → Bool) : ∀ (l : List α) (j : Int), 0 ≤ j → decide (0 ≤ findP p l j) = l.any p
 | [], j, h => by simp [findP]
 | x :: l, j, h => by
  rw [findP, List.any_cons]
  cases hx : p x with
  | true => rw [if_pos rfl]; simp; exact h
  | false => rw [if_neg (by decide), findP_any p l (j + 1) (by omega), Bool.false_or]
set_option maxHeartbeats 8000000 in
set_option maxRecDepth 100000 in
theorem idxQ (p : S28 → Bool) (l : List S28) (A : Option Addr) (c : Nat) (w0 w : World) (hC : Kd.C k28 w0 A l.length l) (hc : l.length ≤ c) (hB : Below w0.heap.size w0 w)
  (H : ∀ x, x ∈ l → ∀ (W : World), Below w.heap.size w W → Calls Tryz.prog 35 #[.agg #[.int .i64 x.f0, .int .i64 x.f1]] W fun e w' => e = .returned (.bool (p x)) ∧ Below W.heap.size W w') :
  Calls Tryz.prog 77 #[.slice A l.length c, .func (.func 35) #[] #[]] w fun e w' => e = .returned (.int .i64 (findP p l 0)) ∧ Below w.heap.size w w' := by
 have HC := Lib.hid hC
 have HB := Lib.hid hB
 have HX := Lib.hid H
 clear hC hB H
 go_enter Tryz.func77, Tryz.ntmps77
 go_wp2
 go_loopw [8] (fun v wr => ∃ j : Nat, j ≤ l.length ∧ v = .int .i64 j ∧ findP p l 0 = findP p (l.drop j) j ∧ Below w.heap.size w wr) (fun v _ => l.length - (intOf v).toNat)
 case atStart => exact ⟨0, Nat.zero_le _, rfl, by rw [List.drop_zero]; rfl, Below.refl _ _⟩
 case round =>
  obtain ⟨j, hj, rfl, hL, hbr⟩ := hrel
  by_cases hjl : j < l.length
  ·have hmax := Kd.C_max HC.out
   obtain ⟨ad, e, x0, x1⟩ := el_Q HC.out hjl
   have hbw : Below w0.heap.size w0 wr := HB.out.trans (hbr.mono HB.out.size)
   have hmem : l[j] ∈ l := List.getElem_mem hjl
   rw [List.drop_eq_getElem_cons hjl, findP] at hL
   generalize l[j] = x at *
   replace x0 := (hbw.cell (World.block_lt_of_cell? w0 _ x0)).trans x0
   replace x1 := (hbw.cell (World.block_lt_of_cell? w0 _ x1)).trans x1
   subst e
   have EW := Lib.hid (wrapj (succ_lt hjl hmax))
   have HL := Lib.hid hL
   have HBR := Lib.hid hbr
   clear hL hbr hbw hmax
   cases hxy : p x with
   | true =>
    have hl2 := HL.out
    rw [hxy, if_pos rfl] at hl2
    have HL2 := Lib.hid hl2
    clear hl2 HL
    have hx := HX.out x hmem wr HBR.out
    rw [hxy] at hx
    have HXX := Lib.hid hx
    clear hx
    go_wp2_with fail
    refine HXX.out.mono ?_
    rintro e w5 ⟨rfl, hb5⟩
    have HB5 := Lib.hid (HBR.out.trans (hb5.mono HBR.out.size))
    clear hb5
    go_wp2
    exact bodyPost_ret (v := .int .i64 (j : Int)) (by simp [results, Tryz.results77, go_sem]) rfl ⟨by rw [HL2.out], HB5.out⟩
   | false =>
    have hl2 := HL.out
    rw [hxy, if_neg (by decide)] at hl2
    have HL2 := Lib.hid hl2
    clear hl2 HL
    have hx := HX.out x hmem wr HBR.out
    rw [hxy] at hx
    have HXX := Lib.hid hx
    clear hx
    go_wp2_with fail
    refine HXX.out.mono ?_
    rintro e w5 ⟨rfl, hb5⟩
    have HB5 := Lib.hid (HBR.out.trans (hb5.mono HBR.out.size))
    clear hb5
    go_wp2
    refine ⟨⟨j + 1, hjl, congrArg (Value.int .i64) EW.out, HL2.out, HB5.out⟩, ?_⟩
    rw [EW.out]
    simp only [intOf, Int.toNat_natCast]
    exact meas_lt hjl
  ·have hjj : j = l.length := by omega
   subst hjj
   rw [List.drop_length, findP] at hL
   go_wp2
   exact bodyPost_ret (v := .int .i64 (-1)) (by simp [results, Tryz.results77, go_sem]) rfl ⟨by rw [hL], hbr⟩
theorem anyQ (p : S28 → Bool) (l : List S28) (A : Option Addr) (c : Nat) (w0 w : World) (hC : Kd.C k28 w0 A l.length l) (hc : l.length ≤ c) (hB : Below w0.heap.size w0 w)
  (H : ∀ x, x ∈ l → ∀ (W : World), Below w.heap.size w W → Calls Tryz.prog 35 #[.agg #[.int .i64 x.f0, .int .i64 x.f1]] W fun e w' => e = .returned (.bool (p x)) ∧ Below W.heap.size W w') :
  Calls Tryz.prog 34 #[.slice A l.length c, .func (.func 35) #[] #[]] w fun e w' => e = .returned (.bool (l.any p)) ∧ Below w.heap.size w w' := by
 have HI := Lib.hid (idxQ p l A c  w0 w hC hc hB H)
 have HP := Lib.hid (findP_any p l 0 (Int.le_refl _))
 clear hC hB H
 go_enter Tryz.func34, Tryz.ntmps34
 go_wp2_with fail
 refine HI.out.mono ?_
 rintro e w1 ⟨rfl, hb1⟩
 go_wp2
 go_ret
 exact ⟨by rw [← HP.out]; rfl, hb1⟩
set_option maxHeartbeats 8000000 in
set_option maxRecDepth 100000 in
theorem idxI (p : Int → Bool) (l : List Int) (A : Option Addr) (c : Nat) (w0 w : World) (hC : (Kd.int .i64).C w0 A l.length l) (hc : l.length ≤ c) (hB : Below w0.heap.size w0 w)
  (H : ∀ x, x ∈ l → ∀ (W : World), Below w.heap.size w W → Calls Tryz.prog 42 #[.int .i64 x] W fun e w' => e = .returned (.bool (p x)) ∧ Below W.heap.size W w') :
  Calls Tryz.prog 91 #[.slice A l.length c, .func (.func 42) #[] #[]] w fun e w' => e = .returned (.int .i64 (findP p l 0)) ∧ Below w.heap.size w w' := by
 have HC := Lib.hid hC
 have HB := Lib.hid hB
 have HX := Lib.hid H
 clear hC hB H
 go_enter Tryz.func91, Tryz.ntmps91
 go_wp2
 go_loopw [8] (fun v wr => ∃ j : Nat, j ≤ l.length ∧ v = .int .i64 j ∧ findP p l 0 = findP p (l.drop j) j ∧ Below w.heap.size w wr) (fun v _ => l.length - (intOf v).toNat)
 case atStart => exact ⟨0, Nat.zero_le _, rfl, by rw [List.drop_zero]; rfl, Below.refl _ _⟩
 case round =>
  obtain ⟨j, hj, rfl, hL, hbr⟩ := hrel
  by_cases hjl : j < l.length
  ·have hmax := Kd.C_max HC.out
   obtain ⟨ad, e, x0⟩ := el_I HC.out hjl
   have hbw : Below w0.heap.size w0 wr := HB.out.trans (hbr.mono HB.out.size)
   have hmem : l[j] ∈ l := List.getElem_mem hjl
   rw [List.drop_eq_getElem_cons hjl, findP] at hL
   generalize l[j] = x at *
   replace x0 := (hbw.cell (World.block_lt_of_cell? w0 _ x0)).trans x0
   subst e
   have EW := Lib.hid (wrapj (succ_lt hjl hmax))
   have HL := Lib.hid hL
   have HBR := Lib.hid hbr
   clear hL hbr hbw hmax
   cases hxy : p x with
   | true =>
    have hl2 := HL.out
    rw [hxy, if_pos rfl] at hl2
    have HL2 := Lib.hid hl2
    clear hl2 HL
    have hx := HX.out x hmem wr HBR.out
    rw [hxy] at hx
    have HXX := Lib.hid hx
    clear hx
    go_wp2_with fail
    refine HXX.out.mono ?_
    rintro e w5 ⟨rfl, hb5⟩
    have HB5 := Lib.hid (HBR.out.trans (hb5.mono HBR.out.size))
    clear hb5
    go_wp2
    exact bodyPost_ret (v := .int .i64 (j : Int)) (by simp [results, Tryz.results91, go_sem]) rfl ⟨by rw [HL2.out], HB5.out⟩
   | false =>
    have hl2 := HL.out
    rw [hxy, if_neg (by decide)] at hl2
    have HL2 := Lib.hid hl2
    clear hl2 HL
    have hx := HX.out x hmem wr HBR.out
    rw [hxy] at hx
    have HXX := Lib.hid hx
    clear hx
    go_wp2_with fail
    refine HXX.out.mono ?_
    rintro e w5 ⟨rfl, hb5⟩
    have HB5 := Lib.hid (HBR.out.trans (hb5.mono HBR.out.size))
    clear hb5
    go_wp2
    refine ⟨⟨j + 1, hjl, congrArg (Value.int .i64) EW.out, HL2.out, HB5.out⟩, ?_⟩
    rw [EW.out]
    simp only [intOf, Int.toNat_natCast]
    exact meas_lt hjl
  ·have hjj : j = l.length := by omega
   subst hjj
   rw [List.drop_length, findP] at hL
   go_wp2
   exact bodyPost_ret (v := .int .i64 (-1)) (by simp [results, Tryz.results91, go_sem]) rfl ⟨by rw [hL], hbr⟩
theorem anyI (p : Int → Bool) (l : List Int) (A : Option Addr) (c : Nat) (w0 w : World) (hC : (Kd.int .i64).C w0 A l.length l) (hc : l.length ≤ c) (hB : Below w0.heap.size w0 w)
  (H : ∀ x, x ∈ l → ∀ (W : World), Below w.heap.size w W → Calls Tryz.prog 42 #[.int .i64 x] W fun e w' => e = .returned (.bool (p x)) ∧ Below W.heap.size W w') :
  Calls Tryz.prog 43 #[.slice A l.length c, .func (.func 42) #[] #[]] w fun e w' => e = .returned (.bool (l.any p)) ∧ Below w.heap.size w w' := by
 have HI := Lib.hid (idxI p l A c  w0 w hC hc hB H)
 have HP := Lib.hid (findP_any p l 0 (Int.le_refl _))
 clear hC hB H
 go_enter Tryz.func43, Tryz.ntmps43
 go_wp2_with fail
 refine HI.out.mono ?_
 rintro e w1 ⟨rfl, hb1⟩
 go_wp2
 go_ret
 exact ⟨by rw [← HP.out]; rfl, hb1⟩
set_option maxHeartbeats 8000000 in
set_option maxRecDepth 100000 in
theorem idxR (p : S40 → Bool) (l : List S40) (A : Option Addr) (c : Nat) (v : Value) (w0 w : World) (hC : Kd.C k40 w0 A l.length l) (hc : l.length ≤ c) (hB : Below w0.heap.size w0 w)
  (H : ∀ x, x ∈ l → ∀ (B : Option Addr) (d : Nat) (W : World), Below w.heap.size w W → Calls Tryz.prog 45 #[.agg #[.slice B x.f0.length d, .int .i64 x.f1], v] W fun e w' => e = .returned (.bool (p x)) ∧ Below W.heap.size W w') :
  Calls Tryz.prog 92 #[.slice A l.length c, .func (.func 45) #[] #[v]] w fun e w' => e = .returned (.int .i64 (findP p l 0)) ∧ Below w.heap.size w w' := by
 have HC := Lib.hid hC
 have HB := Lib.hid hB
 have HX := Lib.hid H
 clear hC hB H
 go_enter Tryz.func92, Tryz.ntmps92
 go_wp2
 go_loopw [8] (fun v wr => ∃ j : Nat, j ≤ l.length ∧ v = .int .i64 j ∧ findP p l 0 = findP p (l.drop j) j ∧ Below w.heap.size w wr) (fun v _ => l.length - (intOf v).toNat)
 case atStart => exact ⟨0, Nat.zero_le _, rfl, by rw [List.drop_zero]; rfl, Below.refl _ _⟩
 case round =>
  obtain ⟨j, hj, rfl, hL, hbr⟩ := hrel
  by_cases hjl : j < l.length
  ·have hmax := Kd.C_max HC.out
   obtain ⟨ad, B, d, e, x0, x1, l', C'⟩ := el_R HC.out hjl
   have hbw : Below w0.heap.size w0 wr := HB.out.trans (hbr.mono HB.out.size)
   have hmem : l[j] ∈ l := List.getElem_mem hjl
   rw [List.drop_eq_getElem_cons hjl, findP] at hL
   generalize l[j] = x at *
   replace x0 := (hbw.cell (World.block_lt_of_cell? w0 _ x0)).trans x0
   replace x1 := (hbw.cell (World.block_lt_of_cell? w0 _ x1)).trans x1
   subst e
   have EW := Lib.hid (wrapj (succ_lt hjl hmax))
   have HL := Lib.hid hL
   have HBR := Lib.hid hbr
   clear hL hbr hbw hmax
   cases hxy : p x with
   | true =>
    have hl2 := HL.out
    rw [hxy, if_pos rfl] at hl2
    have HL2 := Lib.hid hl2
    clear hl2 HL
    have hx := HX.out x hmem B d wr HBR.out
    rw [hxy] at hx
    have HXX := Lib.hid hx
    clear hx
    go_wp2_with fail
    refine HXX.out.mono ?_
    rintro e w5 ⟨rfl, hb5⟩
    have HB5 := Lib.hid (HBR.out.trans (hb5.mono HBR.out.size))
    clear hb5
    go_wp2
    exact bodyPost_ret (v := .int .i64 (j : Int)) Z1f0 rfl ⟨by rw [HL2.out], HB5.out⟩
   | false =>
    have hl2 := HL.out
    rw [hxy, if_neg (by decide)] at hl2
    have HL2 := Lib.hid hl2
    clear hl2 HL
    have hx := HX.out x hmem B d wr HBR.out
    rw [hxy] at hx
    have HXX := Lib.hid hx
    clear hx
    go_wp2_with fail
    refine HXX.out.mono ?_
    rintro e w5 ⟨rfl, hb5⟩
    have HB5 := Lib.hid (HBR.out.trans (hb5.mono HBR.out.size))
    clear hb5
    go_wp2
    refine ⟨⟨j + 1, hjl, congrArg (Value.int .i64) EW.out, HL2.out, HB5.out⟩, ?_⟩
    rw [EW.out]
    simp only [intOf, Int.toNat_natCast]
    exact meas_lt hjl
  ·have hjj : j = l.length := by omega
   subst hjj
   rw [List.drop_length, findP] at hL
   go_wp2
   exact bodyPost_ret (v := .int .i64 (-1)) Z1f0 rfl ⟨by rw [hL], hbr⟩
theorem anyR (p : S40 → Bool) (l : List S40) (A : Option Addr) (c : Nat) (v : Value) (w0 w : World) (hC : Kd.C k40 w0 A l.length l) (hc : l.length ≤ c) (hB : Below w0.heap.size w0 w)
  (H : ∀ x, x ∈ l → ∀ (B : Option Addr) (d : Nat) (W : World), Below w.heap.size w W → Calls Tryz.prog 45 #[.agg #[.slice B x.f0.length d, .int .i64 x.f1], v] W fun e w' => e = .returned (.bool (p x)) ∧ Below W.heap.size W w') :
  Calls Tryz.prog 44 #[.slice A l.length c, .func (.func 45) #[] #[v]] w fun e w' => e = .returned (.bool (l.any p)) ∧ Below w.heap.size w w' := by
 have HI := Lib.hid (idxR p l A c v w0 w hC hc hB H)
 have HP := Lib.hid (findP_any p l 0 (Int.le_refl _))
 clear hC hB H
 go_enter Tryz.func44, Tryz.ntmps44
 go_wp2_with fail
 refine HI.out.mono ?_
 rintro e w1 ⟨rfl, hb1⟩
 go_wp2
 go_ret
 exact ⟨by rw [← HP.out]; rfl, hb1⟩
set_option maxHeartbeats 8000000 in
set_option maxRecDepth 100000 in
theorem idxM (p : S40 → Bool) (l : List S40) (A : Option Addr) (c : Nat) (v : Value) (w0 w : World) (hC : Kd.C k40 w0 A l.length l) (hc : l.length ≤ c) (hB : Below w0.heap.size w0 w)
  (H : ∀ x, x ∈ l → ∀ (B : Option Addr) (d : Nat) (W : World), Below w.heap.size w W → Calls Tryz.prog 96 #[.agg #[.slice B x.f0.length d, .int .i64 x.f1], v] W fun e w' => e = .returned (.bool (p x)) ∧ Below W.heap.size W w') :
  Calls Tryz.prog 92 #[.slice A l.length c, .func (.func 96) #[] #[v]] w fun e w' => e = .returned (.int .i64 (findP p l 0)) ∧ Below w.heap.size w w' := by
 have HC := Lib.hid hC
 have HB := Lib.hid hB
 have HX := Lib.hid H
 clear hC hB H
 go_enter Tryz.func92, Tryz.ntmps92
 go_wp2
 go_loopw [8] (fun v wr => ∃ j : Nat, j ≤ l.length ∧ v = .int .i64 j ∧ findP p l 0 = findP p (l.drop j) j ∧ Below w.heap.size w wr) (fun v _ => l.length - (intOf v).toNat)
 case atStart => exact ⟨0, Nat.zero_le _, rfl, by rw [List.drop_zero]; rfl, Below.refl _ _⟩
 case round =>
  obtain ⟨j, hj, rfl, hL, hbr⟩ := hrel
  by_cases hjl : j < l.length
  ·have hmax := Kd.C_max HC.out
   obtain ⟨ad, B, d, e, x0, x1, l', C'⟩ := el_R HC.out hjl
   have hbw : Below w0.heap.size w0 wr := HB.out.trans (hbr.mono HB.out.size)
   have hmem : l[j] ∈ l := List.getElem_mem hjl
   rw [List.drop_eq_getElem_cons hjl, findP] at hL
   generalize l[j] = x at *
   replace x0 := (hbw.cell (World.block_lt_of_cell? w0 _ x0)).trans x0
   replace x1 := (hbw.cell (World.block_lt_of_cell? w0 _ x1)).trans x1
   subst e
   have EW := Lib.hid (wrapj (succ_lt hjl hmax))
   have HL := Lib.hid hL
   have HBR := Lib.hid hbr
   clear hL hbr hbw hmax
   cases hxy : p x with
   | true =>
    have hl2 := HL.out
    rw [hxy, if_pos rfl] at hl2
    have HL2 := Lib.hid hl2
    clear hl2 HL
    have hx := HX.out x hmem B d wr HBR.out
    rw [hxy] at hx
    have HXX := Lib.hid hx
    clear hx
    go_wp2_with fail
    refine HXX.out.mono ?_
    rintro e w5 ⟨rfl, hb5⟩
    have HB5 := Lib.hid (HBR.out.trans (hb5.mono HBR.out.size))
    clear hb5
    go_wp2
    exact bodyPost_ret (v := .int .i64 (j : Int)) Z1f0 rfl ⟨by rw [HL2.out], HB5.out⟩
   | false =>
    have hl2 := HL.out
    rw [hxy, if_neg (by decide)] at hl2
    have HL2 := Lib.hid hl2
    clear hl2 HL
    have hx := HX.out x hmem B d wr HBR.out
    rw [hxy] at hx
    have HXX := Lib.hid hx
    clear hx
    go_wp2_with fail
    refine HXX.out.mono ?_
    rintro e w5 ⟨rfl, hb5⟩
    have HB5 := Lib.hid (HBR.out.trans (hb5.mono HBR.out.size))
    clear hb5
    go_wp2
    refine ⟨⟨j + 1, hjl, congrArg (Value.int .i64) EW.out, HL2.out, HB5.out⟩, ?_⟩
    rw [EW.out]
    simp only [intOf, Int.toNat_natCast]
    exact meas_lt hjl
  ·have hjj : j = l.length := by omega
   subst hjj
   rw [List.drop_length, findP] at hL
   go_wp2
   exact bodyPost_ret (v := .int .i64 (-1)) Z1f0 rfl ⟨by rw [hL], hbr⟩
theorem anyM (p : S40 → Bool) (l : List S40) (A : Option Addr) (c : Nat) (v : Value) (w0 w : World) (hC : Kd.C k40 w0 A l.length l) (hc : l.length ≤ c) (hB : Below w0.heap.size w0 w)
  (H : ∀ x, x ∈ l → ∀ (B : Option Addr) (d : Nat) (W : World), Below w.heap.size w W → Calls Tryz.prog 96 #[.agg #[.slice B x.f0.length d, .int .i64 x.f1], v] W fun e w' => e = .returned (.bool (p x)) ∧ Below W.heap.size W w') :
  Calls Tryz.prog 44 #[.slice A l.length c, .func (.func 96) #[] #[v]] w fun e w' => e = .returned (.bool (l.any p)) ∧ Below w.heap.size w w' := by
 have HI := Lib.hid (idxM p l A c v w0 w hC hc hB H)
 have HP := Lib.hid (findP_any p l 0 (Int.le_refl _))
 clear hC hB H
 go_enter Tryz.func44, Tryz.ntmps44
 go_wp2_with fail
 refine HI.out.mono ?_
 rintro e w1 ⟨rfl, hb1⟩
 go_wp2
 go_ret
 exact ⟨by rw [← HP.out]; rfl, hb1⟩
end Go.Proofs.YtbpjnkeilhfajaaGreat.Ln
end

section
/- linear.CheckPoint. -/
namespace Go.Proofs
theorem Z1g0 {p : Prop} (h : p := by first | exact Nat.le_refl _ | (simp; done) | (simp; omega) | omega) : p := h
end Go.Proofs
namespace Go.Proofs.YtbpjnkeilhfajaaGreat.Ln
open Go.RowKit Go.Proofs.YtbpjnkeilhfajaaGreat.Num Go.Proofs.YtbpjnkeilhfajaaGreat.Given Go.Proofs.YtbpjnkeilhfajaaGreat.Lin Go.Proofs.YtbpjnkeilhfajaaGreatW.PrintWords
set_option linter.unusedVariables false
set_option linter.unusedSimpArgs false
theorem point1_any (x : S28) (w : World) (h0 : In64 x.f0) (h1 : In64 x.f1) :
  Calls Tryz.prog 35 #[.agg #[.int .i64 x.f0, .int .i64 x.f1]] w fun e w' => e = .returned (.bool (!rightPQ x.f0 x.f1)) ∧ Below w.heap.size w w' := by
 have HR := Lib.hid (fun W => right_any x.f0 x.f1 W h0 h1)
 clear h0 h1
 go_enter Tryz.func35, Tryz.ntmps35
 go_wp2_with fail
 refine (HR.out _).mono ?_
 rintro e w1 ⟨rfl, hb1⟩
 go_wp2
 go_ret
 exact ⟨rfl, by refine Below.trans ?_ (hb1.mono Z1g0); exact (by repeat (first | exact Below.refl _ _ | with_reducible assumption | refine Below.alloc ?_ Z1g0 _ | refine Below.setCell ?_ Z1g0 _ | refine Below.drew ?_ | refine bdrewN ?_ _))⟩
def loopP (xs : List Rat) : List S40 → Bool → Option Bool
 | [], b => some b
 | r :: rs, b => if b = true ∧ r.f0.length = xs.length then (holdF r.f0 xs (r.f1 : Rat)).bind fun s => loopP xs rs (decide (s ≤ 0)) else loopP xs rs false
def PointEnd (ab : Nat) (o : Option Bool) (e : Ending) (w' : World) : Prop := match o with
 | some b => e = .returned (.tuple #[]) ∧ w'.heap[ab]? = some (.cells #[.bool b] 4 (0, 0))
 | none => e = .panicked LargeL
set_option maxHeartbeats 8000000 in
set_option maxRecDepth 100000 in
theorem point2_any (l : List S40) (xs : List Rat) (pts : List S28) (b0 : Bool) (A A' : Option Addr) (c c' : Nat) (rb ab pb : Nat) (w0 w : World) (hC : Kd.C k40 w0 A l.length l) (hc : l.length ≤ c) (hX : Kd.C k28 w0 A' pts.length pts) (hc' : pts.length ≤ c') (hB : Below w0.heap.size w0 w)
  (hin : ∀ r, r ∈ l → In64 r.f1 ∧ ∀ x, x ∈ r.f0 → In64 x) (hlen : pts.length = xs.length) (hpt : b0 = true → pts = xs.map ofQ ∧ ∀ x, x ∈ xs → Fit x)
  (h1 : w.heap[rb]? = some (.cells #[.slice A l.length c] 22 (0, 0))) (h2 : w.heap[ab]? = some (.cells #[.bool b0] 4 (0, 0))) (h3 : w.heap[pb]? = some (.cells #[.slice A' pts.length c'] 26 (0, 0))) (ha : w0.heap.size ≤ ab) (hra : rb ≠ ab) (hpa : pb ≠ ab) :
  Calls Tryz.prog 38 #[.pointer (some ⟨rb, 0, none⟩), .pointer (some ⟨ab, 0, none⟩), .pointer (some ⟨pb, 0, none⟩)] w fun e w' => PointEnd ab (loopP xs l b0) e w' ∧ Fp (fun k => k = ab) w w' := by
 obtain ⟨r, hr⟩ : ∃ r, loopP xs l b0 = r := ⟨_, rfl⟩
 rw [hr]
 have HC := Lib.hid hC
 have HX := Lib.hid hX
 have HB := Lib.hid hB
 have HI := Lib.hid hin
 have HL := Lib.hid hlen
 have HR := Lib.hid hr
 have HPT := Lib.hid hpt
 have H1 := Lib.hid h1
 have H2 := Lib.hid h2
 have H3 := Lib.hid h3
 have p1 : w.cell? ⟨rb, 0, none⟩ = some (.slice A l.length c) := blk_cell h1 0
 clear hC hX hB hin hr hlen hpt h1 h2 h3
 go_enter Tryz.func38, Tryz.ntmps38
 go_wp2
 go_loopw [7] (fun v wr => ∃ (j : Nat) (b : Bool), j ≤ l.length ∧ v = .int .i64 j ∧ (b = true → b0 = true) ∧ loopP xs (l.drop j) b = r ∧ wr.heap[ab]? = some (.cells #[.bool b] 4 (0, 0)) ∧ Fp (fun k => k = ab) w wr) (fun v _ => l.length - (intOf v).toNat)
 case atStart => exact ⟨0, b0, Nat.zero_le _, rfl, id, by rw [List.drop_zero]; exact HR.out, H2.out, Fp.refl _ _⟩
 case round =>
  obtain ⟨j, b, hj, rfl, hbb, hL, hP, hbr⟩ := hrel
  by_cases hjl : j < l.length
  ·have hmax := Kd.C_max HC.out
   obtain ⟨ad, B, d, e, x0, x1, l', C'⟩ := el_R HC.out hjl
   have hbw : Below w0.heap.size w0 wr := HB.out.trans (hbr.below HB.out.size (by intro i hi he; omega))
   have hin := HI.out _ (List.getElem_mem hjl)
   rw [List.drop_eq_getElem_cons hjl, loopP] at hL
   generalize l[j] = x at *
   replace x0 := (hbw.cell (World.block_lt_of_cell? w0 _ x0)).trans x0
   replace x1 := (hbw.cell (World.block_lt_of_cell? w0 _ x1)).trans x1
   subst e
   have EW := Lib.hid (wrapj (succ_lt hjl hmax))
   have za := blk_lt hP
   have q1 : wr.cell? ⟨ab, 0, none⟩ = some (.bool b) := blk_cell hP 0
   have q2 : wr.frozen? ⟨ab, 0, none⟩ = false := blk_frozen hP 0
   have hp3 := (hbr.block _ (blk_lt H3.out) hpa).trans H3.out
   have q3 : wr.cell? ⟨pb, 0, none⟩ = some (.slice A' pts.length c') := blk_cell hp3 0
   have zp := blk_lt hp3
   have HP3 := Lib.hid hp3
   have HP := Lib.hid hP
   have HBR := Lib.hid hbr
   have HBW := Lib.hid hbw
   have HCx := Lib.hid C'
   have HIx := Lib.hid hin
   clear hP hbr hbw hp3 C' hin hmax
   cases b with
   | false =>
    rw [if_neg (fun h => absurd h.1 (by decide))] at hL
    have HLL := Lib.hid hL
    clear hL
    go_wp2
    refine ⟨⟨j + 1, false, hjl, congrArg (Value.int .i64) EW.out, fun h => absurd h (by decide), HLL.out, ?hblk, ?hfp⟩, ?_⟩
    case hblk => exact blk_alloc (blk_put HP.out 0 _ rfl) _
    case hfp => exact (HBR.out.setCell (a := ⟨ab, 0, none⟩) (fun _ => rfl) _).alloc _
    rw [EW.out]
    simp only [intOf, Int.toNat_natCast]
    exact meas_lt hjl
   | true =>
    obtain ⟨hpe, hfit⟩ := HPT.out (hbb rfl)
    by_cases hxl : x.f0.length = pts.length
    ·rw [if_pos ⟨rfl, hxl.trans HL.out⟩] at hL
     have e1 : ((x.f0.length : Int) == (pts.length : Int)) = true := by rw [hxl]; exact beq_self_eq_true _
     have HXX := HX.out
     rw [hpe] at HXX
     have hh2 := fun W (hW : Below w0.heap.size w0 W) => holds_any x.f0 x.f1 xs B A' d c' w0 W (hxl.trans HL.out) HCx.out l' HXX (by rw [← HL.out]; exact hc') hW HIx.out.1 HIx.out.2 hfit
     rw [hxl, ← HL.out] at hh2
     have HH := Lib.hid hh2
     clear hh2
     clear hfit HXX hpe
     cases hh : holdF x.f0 xs (x.f1 : Rat) with
     | none =>
      rw [hh, Option.bind_none] at hL
      obtain rfl : r = none := hL.symm
      rw [hh] at HH
      clear hL hh
      go_wp2_with fail
      refine (HH.out _ (HBW.out.alloc HBW.out.size _)).mono ?_
      rintro e w2 ⟨he, hb2⟩
      obtain rfl : e = .panicked LargeL := he
      exact ⟨rfl, rfl, (HBR.out.alloc _).tr (Fp.of_below hb2)⟩
     | some s =>
      rw [hh, Option.bind_some] at hL
      rw [hh] at HH
      have HLL := Lib.hid hL
      clear hL hh
      go_wp2_with fail
      refine (HH.out _ (HBW.out.alloc HBW.out.size _)).mono ?_
      rintro e w2 ⟨he, hb2⟩
      obtain rfl : e = .returned (.bool (decide (s ≤ 0))) := he
      have hp2 := (hb2.block ab (by simp; omega)).trans (blk_alloc HP.out _)
      have r1 : w2.cell? ⟨ab, 0, none⟩ = some (.bool true) := blk_cell hp2 0
      have r2 : w2.frozen? ⟨ab, 0, none⟩ = false := blk_frozen hp2 0
      have HP2 := Lib.hid hp2
      have HB2 := Lib.hid ((HBR.out.alloc _).tr (Fp.of_below (S := fun k => k = ab) hb2))
      clear hp2 hb2
      go_wp2
      refine ⟨⟨j + 1, decide (s ≤ 0), hjl, congrArg (Value.int .i64) EW.out, fun _ => hbb trivial, HLL.out, ?hblk, ?hfp⟩, ?_⟩
      case hblk => exact blk_put HP2.out 0 _ rfl
      case hfp => exact HB2.out.setCell (a := ⟨ab, 0, none⟩) (fun _ => rfl) _
      rw [EW.out]
      simp only [intOf, Int.toNat_natCast]
      exact meas_lt hjl
    ·rw [if_neg (fun h => hxl (h.2.trans HL.out.symm))] at hL
     have HLL := Lib.hid hL
     have e1 : ((x.f0.length : Int) == (pts.length : Int)) = false := beq_eq_false_iff_ne.2 (fun h => hxl (by omega))
     clear hL hxl hpe hfit
     go_wp2
     refine ⟨⟨j + 1, false, hjl, congrArg (Value.int .i64) EW.out, fun h => absurd h (by decide), HLL.out, ?hblk, ?hfp⟩, ?_⟩
     case hblk => exact blk_alloc (blk_put HP.out 0 _ rfl) _
     case hfp => exact (HBR.out.setCell (a := ⟨ab, 0, none⟩) (fun _ => rfl) _).alloc _
     rw [EW.out]
     simp only [intOf, Int.toNat_natCast]
     exact meas_lt hjl
  ·have hjj : j = l.length := by omega
   subst hjj
   rw [List.drop_length, loopP] at hL
   obtain rfl : r = some b := hL.symm
   have HP := Lib.hid hP
   have HBR := Lib.hid hbr
   clear hL hP hbr
   go_wp2
   simp [bodyPost, results, Tryz.results38, go_sem]
   exact ⟨And.intro rfl HP.out, HBR.out⟩
end Go.Proofs.YtbpjnkeilhfajaaGreat.Ln
end

section
/- linear.CheckPoint, whole. -/
namespace Go.Proofs
theorem Z1h0 {p : Prop} (h : p := by repeat (first | exact Below.refl _ _ | with_reducible assumption | refine Below.alloc ?_ (by first | exact Nat.le_refl _ | (simp; done) | (simp; omega) | omega) _ | refine Below.setCell ?_ (by first | exact Nat.le_refl _ | (simp; done) | (simp; omega) | omega) _ | refine Below.drew ?_ | refine bdrewN ?_ _)) : p := h
theorem Z1h1 {p : Prop} (h : p := by first | exact Nat.le_refl _ | (simp; done) | (simp; omega) | omega) : p := h
end Go.Proofs
namespace Go.Proofs.YtbpjnkeilhfajaaGreat.Ln
open Go.RowKit Go.Proofs.YtbpjnkeilhfajaaGreat.Num Go.Proofs.YtbpjnkeilhfajaaGreat.Given Go.Proofs.YtbpjnkeilhfajaaGreat.Lin Go.Proofs.YtbpjnkeilhfajaaGreatW.PrintWords
set_option linter.unusedVariables false
set_option linter.unusedSimpArgs false
def toZ (r : S40) : RowZ := (r.f0, r.f1)
def toQ (x : S28) : Rat := mkRat x.f0 x.f1.toNat
def rightS (x : S28) : Bool := rightPQ x.f0 x.f1
def chkP (l : List S40) (pts : List S28) : Bool := pts.all rightS && checkPoint (l.map toZ) (pts.map toQ)
theorem right_is {x : S28} (h : rightS x = true) (h0 : In64 x.f0) (h1 : In64 x.f1) : ofQ (toQ x) = x ∧ Fit (toQ x) := by
 unfold rightS rightPQ at h
 rw [Bool.and_eq_true, Bool.and_eq_true, beq_iff_eq, beq_iff_eq] at h
 obtain ⟨b1, b2, b3⟩ := h
 have e : mk x.f0 x.f1 = (x.f0, x.f1, true) := by rw [Prod.ext_iff, Prod.ext_iff]; exact ⟨b2.symm, b3.symm, b1⟩
 obtain ⟨y, hy1, hy2⟩ := right_q (mk_true e).1
 have ey : toQ x = y := by
  unfold toQ
  rw [← hy1, ← hy2, Int.toNat_natCast]
  exact Rat.mkRat_self y
 rw [ey]
 refine ⟨?_, ?_⟩
 ·unfold ofQ; rw [hy1, hy2]
 ·unfold Fit; rw [hy1, hy2]; exact ⟨h0, h1.2⟩
theorem pts_is : ∀ {pts : List S28}, pts.all rightS = true → (∀ x, x ∈ pts → In64 x.f0 ∧ In64 x.f1) → pts = (pts.map toQ).map ofQ ∧ ∀ y, y ∈ pts.map toQ → Fit y
 | [], _, _ => ⟨rfl, by simp⟩
 | x :: l, h, hi => by
  rw [List.all_cons, Bool.and_eq_true] at h
  obtain ⟨a, b⟩ := right_is h.1 (hi x List.mem_cons_self).1 (hi x List.mem_cons_self).2
  obtain ⟨c, d⟩ := pts_is h.2 (fun y hy => hi y (List.mem_cons_of_mem _ hy))
  refine ⟨?_, ?_⟩
  ·rw [List.map_cons, List.map_cons, a, ← c]
  ·intro y hy
   rw [List.map_cons] at hy
   rcases List.mem_cons.1 hy with rfl | hy
   ·exact b
   ·exact d y hy
theorem loopP_false (xs : List Rat) : ∀ l, loopP xs l false = some false
 | [] => rfl
 | r :: l => by rw [loopP, if_neg (fun h => absurd h.1 (by decide)), loopP_false xs l]
theorem loopP_true (xs : List Rat) : ∀ l, (loopP xs l true == some true) = checkPoint (l.map toZ) xs
 | [] => rfl
 | r :: l => by
  have ih := loopP_true xs l
  unfold checkPoint at ih ⊢
  rw [List.map_cons, List.all_cons, ← ih, loopP]
  unfold checkRow
  show _ = ((decide (r.f0.length = xs.length) && match holdF r.f0 xs (r.f1 : Rat) with | some s => decide (s ≤ 0) | none => false) && _)
  by_cases h : r.f0.length = xs.length
  ·rw [if_pos ⟨rfl, h⟩, decide_eq_true h, Bool.true_and]
   cases holdF r.f0 xs (r.f1 : Rat) with
   | none => rfl
   | some s =>
    rw [Option.bind_some]
    cases hd : decide (s ≤ 0) with
    | true => simp [hd]
    | false => simp [hd, loopP_false]
  ·rw [if_neg (fun k => h k.2), decide_eq_false h, Bool.false_and, Bool.false_and, loopP_false]; rfl
def outB (o : Option Bool) : Bool := match o with
 | some b => b
 | none => false
theorem chk_out {l : List S40} {pts : List S28} {b0 : Bool} (h : pts.all rightS = b0) : outB (loopP (pts.map toQ) l b0) = chkP l pts := by
 unfold chkP
 rw [h]
 cases b0 with
 | false => rw [loopP_false]; rfl
 | true =>
  rw [Bool.true_and, ← loopP_true]
  cases loopP (pts.map toQ) l true with
  | none => rfl
  | some b => cases b <;> rfl
theorem cf_point (args : Array Value) (w : World) : (callFunc 38 args).run Tryz.prog w = .ok (.enter 38 args) w := by kernel_rfl
set_option maxHeartbeats 8000000 in
set_option maxRecDepth 100000 in
theorem CheckPoint_any (l : List S40) (pts : List S28) (A A' : Option Addr) (c c' : Nat) (w : World) (hC : Kd.C k40 w A l.length l) (hc : l.length ≤ c) (hX : Kd.C k28 w A' pts.length pts) (hc' : pts.length ≤ c')
  (hin : ∀ r, r ∈ l → In64 r.f1 ∧ ∀ x, x ∈ r.f0 → In64 x) (hp : ∀ x, x ∈ pts → In64 x.f0 ∧ In64 x.f1) :
  Calls Tryz.prog 15 #[.slice A l.length c, .slice A' pts.length c'] w fun e w' => e = .returned (.bool (chkP l pts)) ∧ Below w.heap.size w w' := by
 have HA := Lib.hid (fun W (hW : Below w.heap.size w W) => anyQ (fun x => !rightS x) pts A' c' w W hX hc' hW (fun x hx W2 _ => point1_any x W2 (hp x hx).1 (hp x hx).2))
 have hany : (pts.any fun x => !rightS x) = !(pts.all rightS) := by rw [List.all_eq_not_any_not, Bool.not_not]
 rw [hany] at HA
 obtain ⟨b0, hb0⟩ : ∃ b0, pts.all rightS = b0 := ⟨_, rfl⟩
 rw [hb0] at HA
 obtain ⟨o, ho⟩ : ∃ o, loopP (pts.map toQ) l b0 = o := ⟨_, rfl⟩
 have hout := chk_out (l := l) hb0
 rw [ho] at hout
 have HO := Lib.hid hout
 have hloop := fun rb ab pb W hB h1 h2 h3 ha hra hpa => point2_any l (pts.map toQ) pts b0 A A' c c' rb ab pb w W hC hc hX hc' hB hin (by rw [List.length_map]) (fun h => pts_is (by rw [hb0]; exact h) hp) h1 h2 h3 ha hra hpa
 rw [ho] at hloop
 have HLP := Lib.hid hloop
 clear hC hX hany hloop hin hp hout hb0 ho
 rw [← HO.out]
 go_enter Tryz.func15, Tryz.ntmps15
 go_wp2_with fail
 refine (HA.out _ ?_).mono ?_
 ·exact Z1h0
 rintro e w1 ⟨rfl, hb1⟩
 have hz1 := hb1.size
 simp at hz1
 have k1 := hb1.block w.heap.size (by simp; omega)
 have k2 := hb1.block (w.heap.size + 1) (by simp)
 rw [blk_alloc (blk_new w _) _] at k1
 rw [show w.heap.size + 1 = (w.alloc (.cells #[.slice A l.length c] 22)).heap.size by simp, blk_new] at k2
 have HK1 := Lib.hid k1
 have HK2 := Lib.hid k2
 have HB1 := Lib.hid (show Below w.heap.size w w1 by refine Below.trans ?_ (hb1.mono Z1h1); exact Z1h0)
 clear hb1 k1 k2
 go_wp2_with fail
 have hne : w1.heap.size ≠ (w1.alloc (.cells #[.bool b0] 4)).heap.size := by simp
 have HN := Lib.hid hne
 clear hne
 have hcall : ∀ W, Below (w1.alloc (.cells #[.bool b0] 4)).heap.size (w1.alloc (.cells #[.bool b0] 4)) W → Calls Tryz.prog 38 #[.pointer (some ⟨w.heap.size, 0, none⟩), .pointer (some ⟨w1.heap.size, 0, none⟩), .pointer (some ⟨w.heap.size + 1, 0, none⟩)] W fun e w' => PointEnd w1.heap.size o e w' ∧ Fp (fun k => k = w1.heap.size) W w' := by
  intro W hW
  refine HLP.out _ _ _ W (((HB1.out.alloc HB1.out.size _)).trans (hW.mono (by simp; omega))) ((hW.block _ (by simp; omega)).trans (blk_alloc HK1.out _)) ((hW.block _ (by simp)).trans (blk_new _ _)) ((hW.block _ (by simp; omega)).trans (blk_alloc ?_ _)) (by omega) (by omega) (by omega)
  have := HK2.out
  simpa using this
 have HC := Lib.hid hcall
 clear hcall
 cases o with
 | none =>
  refine (fits_no 38 _ (fun k => k = w1.heap.size) (fun _ => True) _ (by rintro k rfl; simp) (cf_point _) (fun W hW => (HC.out W hW).mono (fun e w' h => ⟨h.1, h.2, trivial⟩))).mono ?_
  rintro e w3 ⟨rfl, hF, _⟩
  have HF := Lib.hid hF
  clear hF
  go_wp2
  go_ret
  exact ⟨rfl, (HB1.out.alloc HB1.out.size _).trans (HF.out.below (by simp; omega) (by intro i hi he; omega))⟩
 | some b =>
  refine (fits_ok 38 _ (fun k => k = w1.heap.size) (fun W => W.heap[w1.heap.size]? = some (.cells #[.bool b] 4 (0, 0))) _ (by rintro k rfl; simp) (cf_point _) (fun W hW => (HC.out W hW).mono (fun e w' h => ⟨h.1.1, h.2, h.1.2⟩))).mono ?_
  rintro e w3 ⟨rfl, hF, W', hQ, hsz, hk⟩
  have q1 : w3.cell? ⟨w1.heap.size, 0, none⟩ = some (.bool b) := blk_cell ((hk _ (blk_lt hQ) HN.out).trans hQ) 0
  have HF := Lib.hid hF
  clear hF hk hQ hsz
  go_wp2
  go_ret
  exact ⟨rfl, (HB1.out.alloc HB1.out.size _).trans (HF.out.below (by simp; omega) (by intro i hi he; omega))⟩
end Go.Proofs.YtbpjnkeilhfajaaGreat.Ln
end
