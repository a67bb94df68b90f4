/- slices.ContainsFunc at linear's closures. -/
import Derived.Test.YtdkbnbebioflaaaLnC
namespace Go.Proofs
theorem Z190 {p : Prop} (h : p := by simp [results, Try.results49, go_sem]) : p := h
end Go.Proofs
namespace Go.Proofs.Ytdkbnbebioflaaa.Ln
open Go.RowKit Go.Proofs.Ytdkbnbebioflaaa.Num Go.Proofs.Ytdkbnbebioflaaa.Given Go.Proofs.Ytdkbnbebioflaaa.Lin Go.Proofs.YtdkbnbebioflaaaW.PrintWords
set_option linter.unusedVariables false
set_option linter.unusedSimpArgs false

/-- The place of the first one. -/
def findP {α : Type} (p : α → Bool) : List α → Int → Int
  | [], _ => -1
  | x :: l, j => if p x = true then j else findP p l (j + 1)
theorem findP_any {α : Type} (p : α → Bool) : ∀ (l : List α) (j : Int), 0 ≤ j → decide (0 ≤ findP p l j) = l.any p
  | [], j, h => by simp [findP]
  | x :: l, j, h => by
    rw [findP, List.any_cons]
    cases hx : p x with
    | true => rw [if_pos rfl]; simp; exact h
    | false => rw [if_neg (by decide), findP_any p l (j + 1) (by omega), Bool.false_or]


set_option maxHeartbeats 8000000 in
set_option maxRecDepth 100000 in
theorem idxQ (p : S29 → Bool) (l : List S29) (A : Option Addr) (c : Nat) (w0 w : World) (hC : Kd.C k29 w0 A l.length l) (hc : l.length ≤ c) (hB : Below w0.heap.size w0 w)
    (H : ∀ x, x ∈ l → ∀ (W : World), Below w.heap.size w W → Calls Try.prog 18 #[.agg #[.int .i64 x.f0, .int .i64 x.f1]] W fun e w' => e = .returned (.bool (p x)) ∧ Below W.heap.size W w') :
    Calls Try.prog 41 #[.slice A l.length c, .func (.func 18) #[] #[]] w fun e w' => e = .returned (.int .i64 (findP p l 0)) ∧ Below w.heap.size w w' := by
  have HC := Lib.hid hC
  have HB := Lib.hid hB
  have HX := Lib.hid H
  clear hC hB H
  go_enter Try.func41, Try.ntmps41
  go_wp2
  go_loopw [8] (fun v wr => ∃ j : Nat, j ≤ l.length ∧ v = .int .i64 j ∧ findP p l 0 = findP p (l.drop j) j ∧ Below w.heap.size w wr) (fun v _ => l.length - (intOf v).toNat)
  case atStart => exact ⟨0, Nat.zero_le _, rfl, by rw [List.drop_zero]; rfl, Below.refl _ _⟩
  case round =>
    obtain ⟨j, hj, rfl, hL, hbr⟩ := hrel
    by_cases hjl : j < l.length
    · have hmax := Kd.C_max HC.out
      obtain ⟨ad, e, x0, x1⟩ := el_Q HC.out hjl
      have hbw : Below w0.heap.size w0 wr := HB.out.trans (hbr.mono HB.out.size)
      have hmem : l[j] ∈ l := List.getElem_mem hjl
      rw [List.drop_eq_getElem_cons hjl, findP] at hL
      generalize l[j] = x at *
      replace x0 := (hbw.cell (World.block_lt_of_cell? w0 _ x0)).trans x0
      replace x1 := (hbw.cell (World.block_lt_of_cell? w0 _ x1)).trans x1
      subst e
      have EW := Lib.hid (wrapj (succ_lt hjl hmax))
      have HL := Lib.hid hL
      have HBR := Lib.hid hbr
      clear hL hbr hbw hmax
      cases hxy : p x with
      | true =>
        have hl2 := HL.out
        rw [hxy, if_pos rfl] at hl2
        have HL2 := Lib.hid hl2
        clear hl2 HL
        have hx := HX.out x hmem wr HBR.out
        rw [hxy] at hx
        have HXX := Lib.hid hx
        clear hx
        go_wp2_with fail
        refine HXX.out.mono ?_
        rintro e w5 ⟨rfl, hb5⟩
        have HB5 := Lib.hid (HBR.out.trans (hb5.mono HBR.out.size))
        clear hb5
        go_wp2
        exact bodyPost_ret (v := .int .i64 (j : Int)) (by simp [results, Try.results41, go_sem]) rfl ⟨by rw [HL2.out], HB5.out⟩
      | false =>
        have hl2 := HL.out
        rw [hxy, if_neg (by decide)] at hl2
        have HL2 := Lib.hid hl2
        clear hl2 HL
        have hx := HX.out x hmem wr HBR.out
        rw [hxy] at hx
        have HXX := Lib.hid hx
        clear hx
        go_wp2_with fail
        refine HXX.out.mono ?_
        rintro e w5 ⟨rfl, hb5⟩
        have HB5 := Lib.hid (HBR.out.trans (hb5.mono HBR.out.size))
        clear hb5
        go_wp2
        refine ⟨⟨j + 1, hjl, congrArg (Value.int .i64) EW.out, HL2.out, HB5.out⟩, ?_⟩
        rw [EW.out]
        simp only [intOf, Int.toNat_natCast]
        exact meas_lt hjl
    · have hjj : j = l.length := by omega
      subst hjj
      rw [List.drop_length, findP] at hL
      go_wp2
      exact bodyPost_ret (v := .int .i64 (-1)) (by simp [results, Try.results41, go_sem]) rfl ⟨by rw [hL], hbr⟩
theorem anyQ (p : S29 → Bool) (l : List S29) (A : Option Addr) (c : Nat) (w0 w : World) (hC : Kd.C k29 w0 A l.length l) (hc : l.length ≤ c) (hB : Below w0.heap.size w0 w)
    (H : ∀ x, x ∈ l → ∀ (W : World), Below w.heap.size w W → Calls Try.prog 18 #[.agg #[.int .i64 x.f0, .int .i64 x.f1]] W fun e w' => e = .returned (.bool (p x)) ∧ Below W.heap.size W w') :
    Calls Try.prog 17 #[.slice A l.length c, .func (.func 18) #[] #[]] w fun e w' => e = .returned (.bool (l.any p)) ∧ Below w.heap.size w w' := by
  have HI := Lib.hid (idxQ p l A c  w0 w hC hc hB H)
  have HP := Lib.hid (findP_any p l 0 (Int.le_refl _))
  clear hC hB H
  go_enter Try.func17, Try.ntmps17
  go_wp2_with fail
  refine HI.out.mono ?_
  rintro e w1 ⟨rfl, hb1⟩
  go_wp2
  go_ret
  exact ⟨by rw [← HP.out]; rfl, hb1⟩


set_option maxHeartbeats 8000000 in
set_option maxRecDepth 100000 in
theorem idxI (p : Int → Bool) (l : List Int) (A : Option Addr) (c : Nat) (w0 w : World) (hC : (Kd.int .i64).C w0 A l.length l) (hc : l.length ≤ c) (hB : Below w0.heap.size w0 w)
    (H : ∀ x, x ∈ l → ∀ (W : World), Below w.heap.size w W → Calls Try.prog 23 #[.int .i64 x] W fun e w' => e = .returned (.bool (p x)) ∧ Below W.heap.size W w') :
    Calls Try.prog 48 #[.slice A l.length c, .func (.func 23) #[] #[]] w fun e w' => e = .returned (.int .i64 (findP p l 0)) ∧ Below w.heap.size w w' := by
  have HC := Lib.hid hC
  have HB := Lib.hid hB
  have HX := Lib.hid H
  clear hC hB H
  go_enter Try.func48, Try.ntmps48
  go_wp2
  go_loopw [8] (fun v wr => ∃ j : Nat, j ≤ l.length ∧ v = .int .i64 j ∧ findP p l 0 = findP p (l.drop j) j ∧ Below w.heap.size w wr) (fun v _ => l.length - (intOf v).toNat)
  case atStart => exact ⟨0, Nat.zero_le _, rfl, by rw [List.drop_zero]; rfl, Below.refl _ _⟩
  case round =>
    obtain ⟨j, hj, rfl, hL, hbr⟩ := hrel
    by_cases hjl : j < l.length
    · have hmax := Kd.C_max HC.out
      obtain ⟨ad, e, x0⟩ := el_I HC.out hjl
      have hbw : Below w0.heap.size w0 wr := HB.out.trans (hbr.mono HB.out.size)
      have hmem : l[j] ∈ l := List.getElem_mem hjl
      rw [List.drop_eq_getElem_cons hjl, findP] at hL
      generalize l[j] = x at *
      replace x0 := (hbw.cell (World.block_lt_of_cell? w0 _ x0)).trans x0
      subst e
      have EW := Lib.hid (wrapj (succ_lt hjl hmax))
      have HL := Lib.hid hL
      have HBR := Lib.hid hbr
      clear hL hbr hbw hmax
      cases hxy : p x with
      | true =>
        have hl2 := HL.out
        rw [hxy, if_pos rfl] at hl2
        have HL2 := Lib.hid hl2
        clear hl2 HL
        have hx := HX.out x hmem wr HBR.out
        rw [hxy] at hx
        have HXX := Lib.hid hx
        clear hx
        go_wp2_with fail
        refine HXX.out.mono ?_
        rintro e w5 ⟨rfl, hb5⟩
        have HB5 := Lib.hid (HBR.out.trans (hb5.mono HBR.out.size))
        clear hb5
        go_wp2
        exact bodyPost_ret (v := .int .i64 (j : Int)) (by simp [results, Try.results48, go_sem]) rfl ⟨by rw [HL2.out], HB5.out⟩
      | false =>
        have hl2 := HL.out
        rw [hxy, if_neg (by decide)] at hl2
        have HL2 := Lib.hid hl2
        clear hl2 HL
        have hx := HX.out x hmem wr HBR.out
        rw [hxy] at hx
        have HXX := Lib.hid hx
        clear hx
        go_wp2_with fail
        refine HXX.out.mono ?_
        rintro e w5 ⟨rfl, hb5⟩
        have HB5 := Lib.hid (HBR.out.trans (hb5.mono HBR.out.size))
        clear hb5
        go_wp2
        refine ⟨⟨j + 1, hjl, congrArg (Value.int .i64) EW.out, HL2.out, HB5.out⟩, ?_⟩
        rw [EW.out]
        simp only [intOf, Int.toNat_natCast]
        exact meas_lt hjl
    · have hjj : j = l.length := by omega
      subst hjj
      rw [List.drop_length, findP] at hL
      go_wp2
      exact bodyPost_ret (v := .int .i64 (-1)) (by simp [results, Try.results48, go_sem]) rfl ⟨by rw [hL], hbr⟩
theorem anyI (p : Int → Bool) (l : List Int) (A : Option Addr) (c : Nat) (w0 w : World) (hC : (Kd.int .i64).C w0 A l.length l) (hc : l.length ≤ c) (hB : Below w0.heap.size w0 w)
    (H : ∀ x, x ∈ l → ∀ (W : World), Below w.heap.size w W → Calls Try.prog 23 #[.int .i64 x] W fun e w' => e = .returned (.bool (p x)) ∧ Below W.heap.size W w') :
    Calls Try.prog 24 #[.slice A l.length c, .func (.func 23) #[] #[]] w fun e w' => e = .returned (.bool (l.any p)) ∧ Below w.heap.size w w' := by
  have HI := Lib.hid (idxI p l A c  w0 w hC hc hB H)
  have HP := Lib.hid (findP_any p l 0 (Int.le_refl _))
  clear hC hB H
  go_enter Try.func24, Try.ntmps24
  go_wp2_with fail
  refine HI.out.mono ?_
  rintro e w1 ⟨rfl, hb1⟩
  go_wp2
  go_ret
  exact ⟨by rw [← HP.out]; rfl, hb1⟩


set_option maxHeartbeats 8000000 in
set_option maxRecDepth 100000 in
theorem idxR (p : S38 → Bool) (l : List S38) (A : Option Addr) (c : Nat) (v : Value) (w0 w : World) (hC : Kd.C k38 w0 A l.length l) (hc : l.length ≤ c) (hB : Below w0.heap.size w0 w)
    (H : ∀ x, x ∈ l → ∀ (B : Option Addr) (d : Nat) (W : World), Below w.heap.size w W → Calls Try.prog 26 #[.agg #[.slice B x.f0.length d, .int .i64 x.f1], v] W fun e w' => e = .returned (.bool (p x)) ∧ Below W.heap.size W w') :
    Calls Try.prog 49 #[.slice A l.length c, .func (.func 26) #[] #[v]] w fun e w' => e = .returned (.int .i64 (findP p l 0)) ∧ Below w.heap.size w w' := by
  have HC := Lib.hid hC
  have HB := Lib.hid hB
  have HX := Lib.hid H
  clear hC hB H
  go_enter Try.func49, Try.ntmps49
  go_wp2
  go_loopw [8] (fun v wr => ∃ j : Nat, j ≤ l.length ∧ v = .int .i64 j ∧ findP p l 0 = findP p (l.drop j) j ∧ Below w.heap.size w wr) (fun v _ => l.length - (intOf v).toNat)
  case atStart => exact ⟨0, Nat.zero_le _, rfl, by rw [List.drop_zero]; rfl, Below.refl _ _⟩
  case round =>
    obtain ⟨j, hj, rfl, hL, hbr⟩ := hrel
    by_cases hjl : j < l.length
    · have hmax := Kd.C_max HC.out
      obtain ⟨ad, B, d, e, x0, x1, l', C'⟩ := el_R HC.out hjl
      have hbw : Below w0.heap.size w0 wr := HB.out.trans (hbr.mono HB.out.size)
      have hmem : l[j] ∈ l := List.getElem_mem hjl
      rw [List.drop_eq_getElem_cons hjl, findP] at hL
      generalize l[j] = x at *
      replace x0 := (hbw.cell (World.block_lt_of_cell? w0 _ x0)).trans x0
      replace x1 := (hbw.cell (World.block_lt_of_cell? w0 _ x1)).trans x1
      subst e
      have EW := Lib.hid (wrapj (succ_lt hjl hmax))
      have HL := Lib.hid hL
      have HBR := Lib.hid hbr
      clear hL hbr hbw hmax
      cases hxy : p x with
      | true =>
        have hl2 := HL.out
        rw [hxy, if_pos rfl] at hl2
        have HL2 := Lib.hid hl2
        clear hl2 HL
        have hx := HX.out x hmem B d wr HBR.out
        rw [hxy] at hx
        have HXX := Lib.hid hx
        clear hx
        go_wp2_with fail
        refine HXX.out.mono ?_
        rintro e w5 ⟨rfl, hb5⟩
        have HB5 := Lib.hid (HBR.out.trans (hb5.mono HBR.out.size))
        clear hb5
        go_wp2
        exact bodyPost_ret (v := .int .i64 (j : Int)) Z190 rfl ⟨by rw [HL2.out], HB5.out⟩
      | false =>
        have hl2 := HL.out
        rw [hxy, if_neg (by decide)] at hl2
        have HL2 := Lib.hid hl2
        clear hl2 HL
        have hx := HX.out x hmem B d wr HBR.out
        rw [hxy] at hx
        have HXX := Lib.hid hx
        clear hx
        go_wp2_with fail
        refine HXX.out.mono ?_
        rintro e w5 ⟨rfl, hb5⟩
        have HB5 := Lib.hid (HBR.out.trans (hb5.mono HBR.out.size))
        clear hb5
        go_wp2
        refine ⟨⟨j + 1, hjl, congrArg (Value.int .i64) EW.out, HL2.out, HB5.out⟩, ?_⟩
        rw [EW.out]
        simp only [intOf, Int.toNat_natCast]
        exact meas_lt hjl
    · have hjj : j = l.length := by omega
      subst hjj
      rw [List.drop_length, findP] at hL
      go_wp2
      exact bodyPost_ret (v := .int .i64 (-1)) Z190 rfl ⟨by rw [hL], hbr⟩
theorem anyR (p : S38 → Bool) (l : List S38) (A : Option Addr) (c : Nat) (v : Value) (w0 w : World) (hC : Kd.C k38 w0 A l.length l) (hc : l.length ≤ c) (hB : Below w0.heap.size w0 w)
    (H : ∀ x, x ∈ l → ∀ (B : Option Addr) (d : Nat) (W : World), Below w.heap.size w W → Calls Try.prog 26 #[.agg #[.slice B x.f0.length d, .int .i64 x.f1], v] W fun e w' => e = .returned (.bool (p x)) ∧ Below W.heap.size W w') :
    Calls Try.prog 25 #[.slice A l.length c, .func (.func 26) #[] #[v]] w fun e w' => e = .returned (.bool (l.any p)) ∧ Below w.heap.size w w' := by
  have HI := Lib.hid (idxR p l A c v w0 w hC hc hB H)
  have HP := Lib.hid (findP_any p l 0 (Int.le_refl _))
  clear hC hB H
  go_enter Try.func25, Try.ntmps25
  go_wp2_with fail
  refine HI.out.mono ?_
  rintro e w1 ⟨rfl, hb1⟩
  go_wp2
  go_ret
  exact ⟨by rw [← HP.out]; rfl, hb1⟩


set_option maxHeartbeats 8000000 in
set_option maxRecDepth 100000 in
theorem idxM (p : S38 → Bool) (l : List S38) (A : Option Addr) (c : Nat) (v : Value) (w0 w : World) (hC : Kd.C k38 w0 A l.length l) (hc : l.length ≤ c) (hB : Below w0.heap.size w0 w)
    (H : ∀ x, x ∈ l → ∀ (B : Option Addr) (d : Nat) (W : World), Below w.heap.size w W → Calls Try.prog 53 #[.agg #[.slice B x.f0.length d, .int .i64 x.f1], v] W fun e w' => e = .returned (.bool (p x)) ∧ Below W.heap.size W w') :
    Calls Try.prog 49 #[.slice A l.length c, .func (.func 53) #[] #[v]] w fun e w' => e = .returned (.int .i64 (findP p l 0)) ∧ Below w.heap.size w w' := by
  have HC := Lib.hid hC
  have HB := Lib.hid hB
  have HX := Lib.hid H
  clear hC hB H
  go_enter Try.func49, Try.ntmps49
  go_wp2
  go_loopw [8] (fun v wr => ∃ j : Nat, j ≤ l.length ∧ v = .int .i64 j ∧ findP p l 0 = findP p (l.drop j) j ∧ Below w.heap.size w wr) (fun v _ => l.length - (intOf v).toNat)
  case atStart => exact ⟨0, Nat.zero_le _, rfl, by rw [List.drop_zero]; rfl, Below.refl _ _⟩
  case round =>
    obtain ⟨j, hj, rfl, hL, hbr⟩ := hrel
    by_cases hjl : j < l.length
    · have hmax := Kd.C_max HC.out
      obtain ⟨ad, B, d, e, x0, x1, l', C'⟩ := el_R HC.out hjl
      have hbw : Below w0.heap.size w0 wr := HB.out.trans (hbr.mono HB.out.size)
      have hmem : l[j] ∈ l := List.getElem_mem hjl
      rw [List.drop_eq_getElem_cons hjl, findP] at hL
      generalize l[j] = x at *
      replace x0 := (hbw.cell (World.block_lt_of_cell? w0 _ x0)).trans x0
      replace x1 := (hbw.cell (World.block_lt_of_cell? w0 _ x1)).trans x1
      subst e
      have EW := Lib.hid (wrapj (succ_lt hjl hmax))
      have HL := Lib.hid hL
      have HBR := Lib.hid hbr
      clear hL hbr hbw hmax
      cases hxy : p x with
      | true =>
        have hl2 := HL.out
        rw [hxy, if_pos rfl] at hl2
        have HL2 := Lib.hid hl2
        clear hl2 HL
        have hx := HX.out x hmem B d wr HBR.out
        rw [hxy] at hx
        have HXX := Lib.hid hx
        clear hx
        go_wp2_with fail
        refine HXX.out.mono ?_
        rintro e w5 ⟨rfl, hb5⟩
        have HB5 := Lib.hid (HBR.out.trans (hb5.mono HBR.out.size))
        clear hb5
        go_wp2
        exact bodyPost_ret (v := .int .i64 (j : Int)) Z190 rfl ⟨by rw [HL2.out], HB5.out⟩
      | false =>
        have hl2 := HL.out
        rw [hxy, if_neg (by decide)] at hl2
        have HL2 := Lib.hid hl2
        clear hl2 HL
        have hx := HX.out x hmem B d wr HBR.out
        rw [hxy] at hx
        have HXX := Lib.hid hx
        clear hx
        go_wp2_with fail
        refine HXX.out.mono ?_
        rintro e w5 ⟨rfl, hb5⟩
        have HB5 := Lib.hid (HBR.out.trans (hb5.mono HBR.out.size))
        clear hb5
        go_wp2
        refine ⟨⟨j + 1, hjl, congrArg (Value.int .i64) EW.out, HL2.out, HB5.out⟩, ?_⟩
        rw [EW.out]
        simp only [intOf, Int.toNat_natCast]
        exact meas_lt hjl
    · have hjj : j = l.length := by omega
      subst hjj
      rw [List.drop_length, findP] at hL
      go_wp2
      exact bodyPost_ret (v := .int .i64 (-1)) Z190 rfl ⟨by rw [hL], hbr⟩
theorem anyM (p : S38 → Bool) (l : List S38) (A : Option Addr) (c : Nat) (v : Value) (w0 w : World) (hC : Kd.C k38 w0 A l.length l) (hc : l.length ≤ c) (hB : Below w0.heap.size w0 w)
    (H : ∀ x, x ∈ l → ∀ (B : Option Addr) (d : Nat) (W : World), Below w.heap.size w W → Calls Try.prog 53 #[.agg #[.slice B x.f0.length d, .int .i64 x.f1], v] W fun e w' => e = .returned (.bool (p x)) ∧ Below W.heap.size W w') :
    Calls Try.prog 25 #[.slice A l.length c, .func (.func 53) #[] #[v]] w fun e w' => e = .returned (.bool (l.any p)) ∧ Below w.heap.size w w' := by
  have HI := Lib.hid (idxM p l A c v w0 w hC hc hB H)
  have HP := Lib.hid (findP_any p l 0 (Int.le_refl _))
  clear hC hB H
  go_enter Try.func25, Try.ntmps25
  go_wp2_with fail
  refine HI.out.mono ?_
  rintro e w1 ⟨rfl, hb1⟩
  go_wp2
  go_ret
  exact ⟨by rw [← HP.out]; rfl, hb1⟩


end Go.Proofs.Ytdkbnbebioflaaa.Ln
