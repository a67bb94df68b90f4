import Derived.Test.YtmcfcmijopbinaaLnS3
section
/- whole's Solve and Check, in the form in which a printed text meets a callee. -/
namespace Go.Proofs.Ytmcfcmijopbinaa.Given
open Go.RowKit Go.Proofs.Ytmcfcmijopbinaa.Num Go.Proofs.Ytmcfcmijopbinaa.Ln Go.Proofs.Ytmcfcmijopbinaa.Lin Go.Proofs.YtmcfcmijopbinaaW.PrintWords
set_option linter.unusedVariables false
def whole_Solve.f (l0 : List S25) (a1 a2 : Int) : Option (Int × List Int) :=
 if ((∀ r, r ∈ l0 → RowIn r) ∧ In64 a2) ∧ l0.length + a2.toNat ≤ 100000 then some (wsolve (l0.map toZ) a1 a2 (chkW (l0.map toZ))) else none
theorem whole_Solve.calls (A0 : Option Addr) (c0 : Nat) (l0 : List S25) (a1 a2 : Int) (r0 : Int) (r1 : List Int) (w : World) (hr0 : Kd.C k25 w A0 l0.length l0) (hc0 : l0.length ≤ c0) (h : whole_Solve.f l0 a1 a2 = some (r0, r1)) :
  Calls Try.prog 9 #[.slice A0 l0.length c0, .int .i64 a1, .int .i64 a2] w fun e w' => ∃ v1_ : Value, e = .returned (.tuple #[.int .i64 r0, v1_]) ∧ Kd.R (Kd.int .i64) 2 w' w.heap.size (fun _ => True) v1_ r1 ∧ Below w.heap.size w w' := by
 unfold whole_Solve.f at h
 split at h
 ·rename_i hd
  injection h with h
  refine (wsolve_any l0 A0 c0 a1 a2 w hr0 hc0 hd.1.1 hd.1.2 hd.2).mono ?_
  rintro e w' ⟨⟨vp, rfl, hp⟩, hb⟩
  rw [h] at hp ⊢
  exact ⟨vp, rfl, Kd.R_mono (RowI.toR hp) (fun _ _ => trivial), hb⟩
 ·cases h
def whole_Check.f (l0 : List S25) (l1 : List Int) : Option Bool := if (∀ r, r ∈ l0 → RowIn r) ∧ ∀ x, x ∈ l1 → In64 x then some (chkW (l0.map toZ) l1) else none
theorem whole_Check.calls (A0 : Option Addr) (c0 : Nat) (l0 : List S25) (A1 : Option Addr) (c1 : Nat) (l1 : List Int) (r : Bool) (w : World) (hr0 : Kd.C k25 w A0 l0.length l0) (hc0 : l0.length ≤ c0) (hr1 : Kd.C (Kd.int .i64) w A1 l1.length l1) (hc1 : l1.length ≤ c1) (h : whole_Check.f l0 l1 = some r) :
  Calls Try.prog 10 #[.slice A0 l0.length c0, .slice A1 l1.length c1] w fun e w' => e = .returned (.bool r) ∧ Below w.heap.size w w' := by
 unfold whole_Check.f at h
 split at h
 ·rename_i hd
  rw [← Option.some.inj h]
  exact wcheck_any l0 l1 A0 A1 c0 c1 w hr0 hc0 hr1 hd.1 hd.2
 ·cases h
end Go.Proofs.Ytmcfcmijopbinaa.Given
end

section
/- whole in the printer's form; ashlarlaw12.shown. -/
namespace Go.Proofs
theorem Z470 {p : Prop} (h : p := by first | exact Nat.le_refl _ | (simp; done) | (simp; omega) | omega) : p := h
theorem Z471 {p : Prop} (h : p := by repeat (first | exact Below.refl _ _ | with_reducible assumption | refine Below.alloc ?_ (by first | exact Nat.le_refl _ | (simp; done) | (simp; omega) | omega) _ | refine Below.setCell ?_ (by first | exact Nat.le_refl _ | (simp; done) | (simp; omega) | omega) _ | refine Below.drew ?_ | refine bdrewN ?_ _)) : p := h
end Go.Proofs
namespace Go.Proofs.Ytmcfcmijopbinaa.Ln
open Go.RowKit Go.Proofs.Ytmcfcmijopbinaa.Num Go.Proofs.Ytmcfcmijopbinaa.Given Go.Proofs.Ytmcfcmijopbinaa.Lin Go.Proofs.YtmcfcmijopbinaaW.PrintWords
set_option linter.unusedVariables false
set_option linter.unusedSimpArgs false
theorem C_of {α : Type} {d : Kd α} {w : World} {g n : Nat} {cells : Array Value} {ty : TypeId} {xs : List α} (hb : w.heap[g]? = some (.cells cells ty (0, 0))) (hl : xs.length = n) (hn : n ≤ 9223372036854775807)
  (h : ∀ j p, xs[j]? = some p → ∃ cs, cs.length = d.sz ∧ d.K w p cs ∧ ∀ i u, cs[i]? = some u → cells[j * d.sz + i]? = some u) : d.C w (some ⟨g, 0, none⟩) n xs := by
 refine ⟨hl, hn, fun _ => ⟨_, rfl, fun j p hj => ?_⟩⟩
 obtain ⟨cs, h1, h2, h3⟩ := h j p hj
 refine ⟨cs, h1, h2, fun i u hu => ?_⟩
 have e : (⟨g, 0, none⟩ : Addr).add (j * d.sz + i) = ⟨g, j * d.sz + i, none⟩ := by rw [Addr.add_lit, Nat.zero_add]
 rw [e, blk_cell hb]
 exact h3 i u hu
theorem C_I1 {w : World} {g : Nat} {ty : TypeId} {a : Int} (hb : w.heap[g]? = some (.cells #[.int .i64 a] ty (0, 0))) : (Kd.int .i64).C w (some ⟨g, 0, none⟩) 1 [a] := by
 refine C_of hb rfl (by decide) fun j p hj => ?_
 match j, hj with
 | 0, hj => obtain rfl := Option.some.inj hj; exact ⟨[.int .i64 a], rfl, rfl, fun i u hu => by match i, hu with | 0, hu => exact hu⟩
theorem C_rows2 {w : World} {g g0 g1 : Nat} {t0 t1 ty : TypeId} {a b k l : Int} (h0 : w.heap[g0]? = some (.cells #[.int .i64 a] t0 (0, 0))) (h1 : w.heap[g1]? = some (.cells #[.int .i64 b] t1 (0, 0)))
  (hb : w.heap[g]? = some (.cells #[.slice (some ⟨g0, 0, none⟩) 1 1, .int .i64 k, .slice (some ⟨g1, 0, none⟩) 1 1, .int .i64 l] ty (0, 0))) : Kd.C k25 w (some ⟨g, 0, none⟩) 2 [⟨[a], k⟩, ⟨[b], l⟩] := by
 refine C_of hb rfl (by decide) fun j p hj => ?_
 match j, hj with
 | 0, hj => obtain rfl := Option.some.inj hj; exact ⟨_, rfl, k25_mk w ⟨[a], k⟩ (Nat.le_refl 1) (C_I1 h0), fun i u hu => by match i, hu with | 0, hu => exact hu | 1, hu => exact hu⟩
 | 1, hj => obtain rfl := Option.some.inj hj; exact ⟨_, rfl, k25_mk w ⟨[b], l⟩ (Nat.le_refl 1) (C_I1 h1), fun i u hu => by match i, hu with | 0, hu => exact hu | 1, hu => exact hu⟩
theorem C_rows3 {w : World} {g g0 g1 g2 : Nat} {t0 t1 t2 ty : TypeId} {a b d k l m : Int} (h0 : w.heap[g0]? = some (.cells #[.int .i64 a] t0 (0, 0))) (h1 : w.heap[g1]? = some (.cells #[.int .i64 b] t1 (0, 0))) (h2 : w.heap[g2]? = some (.cells #[.int .i64 d] t2 (0, 0)))
  (hb : w.heap[g]? = some (.cells #[.slice (some ⟨g0, 0, none⟩) 1 1, .int .i64 k, .slice (some ⟨g1, 0, none⟩) 1 1, .int .i64 l, .slice (some ⟨g2, 0, none⟩) 1 1, .int .i64 m] ty (0, 0))) : Kd.C k25 w (some ⟨g, 0, none⟩) 3 [⟨[a], k⟩, ⟨[b], l⟩, ⟨[d], m⟩] := by
 refine C_of hb rfl (by decide) fun j p hj => ?_
 match j, hj with
 | 0, hj => obtain rfl := Option.some.inj hj; exact ⟨_, rfl, k25_mk w ⟨[a], k⟩ (Nat.le_refl 1) (C_I1 h0), fun i u hu => by match i, hu with | 0, hu => exact hu | 1, hu => exact hu⟩
 | 1, hj => obtain rfl := Option.some.inj hj; exact ⟨_, rfl, k25_mk w ⟨[b], l⟩ (Nat.le_refl 1) (C_I1 h1), fun i u hu => by match i, hu with | 0, hu => exact hu | 1, hu => exact hu⟩
 | 2, hj => obtain rfl := Option.some.inj hj; exact ⟨_, rfl, k25_mk w ⟨[d], m⟩ (Nat.le_refl 1) (C_I1 h2), fun i u hu => by match i, hu with | 0, hu => exact hu | 1, hu => exact hu⟩
theorem C_first {α : Type} {d : Kd α} {w : World} {A : Option Addr} {x y : α} (h : d.C w A 2 [x, y]) : d.C w A 1 [x] := by
 obtain ⟨h1, h2, h3⟩ := h
 refine ⟨rfl, by omega, fun _ => ?_⟩
 obtain ⟨ad, e, h⟩ := h3 (by decide)
 refine ⟨ad, e, fun j p hj => h j p ?_⟩
 match j, hj with
 | 0, hj => exact hj
def wA : List S25 := [⟨[2], -1⟩, ⟨[-2], 1⟩]
def wB : List S25 := [⟨[2], -1⟩, ⟨[1], -3⟩, ⟨[-1], -3⟩]
theorem wAin : ∀ r, r ∈ wA → RowIn r := by decide
theorem wBin : ∀ r, r ∈ wB → RowIn r := by decide
theorem ws_no {A : Option Addr} {c : Nat} {w : World} (hC : Kd.C k25 w A 2 wA) (hc : 2 ≤ c) :
  Calls Try.prog 9 #[.slice A 2 c, .int .i64 1, .int .i64 1000] w fun e w' => (∃ A1 c1, e = .returned (.tuple #[.int .i64 2, .slice A1 0 c1])) ∧ Below w.heap.size w w' := by
 refine (wsolve_any wA A c 1 1000 w hC hc wAin (by decide) (by decide)).mono ?_
 rintro e w' ⟨⟨vp, rfl, hp⟩, hb⟩
 have hs : wsolve (wA.map toZ) 1 1000 (chkW (wA.map toZ)) = (2, []) := by decide +kernel
 rw [hs] at hp ⊢
 obtain ⟨A1, c1, rfl, -, -⟩ := Kd.R_reads (RowI.toR hp)
 exact ⟨⟨A1, c1, rfl⟩, hb⟩
theorem ws_yes {A : Option Addr} {c : Nat} {w : World} (hC : Kd.C k25 w A 3 wB) (hc : 3 ≤ c) :
  Calls Try.prog 9 #[.slice A 3 c, .int .i64 1, .int .i64 1000] w fun e w' => (∃ A1 c1, e = .returned (.tuple #[.int .i64 1, .slice A1 1 c1]) ∧ (Kd.int .i64).C w' A1 1 [0]) ∧ Below w.heap.size w w' := by
 refine (wsolve_any wB A c 1 1000 w hC hc wBin (by decide) (by decide)).mono ?_
 rintro e w' ⟨⟨vp, rfl, hp⟩, hb⟩
 have hs : wsolve (wB.map toZ) 1 1000 (chkW (wB.map toZ)) = (1, [0]) := by decide +kernel
 rw [hs] at hp ⊢
 obtain ⟨A1, c1, rfl, h1, h2⟩ := Kd.R_reads (RowI.toR hp)
 exact ⟨⟨A1, c1, rfl, h2⟩, hb⟩
theorem ws_not {A : Option Addr} {c : Nat} {w : World} (hC : Kd.C k25 w A 2 wA) (hc : 2 ≤ c) :
  Calls Try.prog 9 #[.slice A 2 c, .int .i64 1, .int .i64 0] w fun e w' => (∃ v1, e = .returned (.tuple #[.int .i64 0, v1])) ∧ Below w.heap.size w w' := by
 refine (wsolve_any wA A c 1 0 w hC hc wAin (by decide) (by decide)).mono ?_
 rintro e w' ⟨⟨vp, rfl, hp⟩, hb⟩
 have hs : wsolve (wA.map toZ) 1 0 (chkW (wA.map toZ)) = (0, []) := by decide +kernel
 rw [hs]
 exact ⟨⟨vp, rfl⟩, hb⟩
theorem ws_chk {n : Nat} {l : List S25} {p : Int} {r : Bool} {A A' : Option Addr} {c c' : Nat} {w : World} (hn : l.length = n) (hC : Kd.C k25 w A n l) (hc : n ≤ c) (hP : (Kd.int .i64).C w A' 1 [p]) (hin : ∀ r, r ∈ l → RowIn r) (hp : In64 p) (hr : chkW (l.map toZ) [p] = r) :
  Calls Try.prog 10 #[.slice A n c, .slice A' 1 c'] w fun e w' => e = .returned (.bool r) ∧ Below w.heap.size w w' := by
 subst hn
 rw [← hr]; exact wcheck_any l [p] A A' c c' w hC hc hP hin (fun y hy => by rw [List.mem_singleton.1 hy]; exact hp)
def KpW (g : Nat) (W : World) : Prop := Kd.C k25 W (some ⟨g + 2, 0, none⟩) 2 wA
theorem KpW.below {g : Nat} {w w1 : World} (h : Hid (KpW g w)) (hb : Below w.heap.size w w1) : Hid (KpW g w1) := Lib.hid (Kd.C_below h.out hb)
set_option maxHeartbeats 8000000 in
set_option maxRecDepth 100000 in
theorem wshown_any (w : World) : Calls Try.prog 6 #[] w fun e w' => e = .returned (.bool true) ∧ Below w.heap.size w w' := by
 go_enter Try.func6, Try.ntmps6
 go_wp2_with fail
 have HX := Lib.hid (C_rows2 (w := ((w.alloc (.cells #[.int .i64 2] 2)).alloc (.cells #[.int .i64 (-2)] 2)).alloc (.cells #[.slice (some ⟨w.heap.size, 0, none⟩) 1 1, .int .i64 (-1), .slice (some ⟨w.heap.size + 1, 0, none⟩) 1 1, .int .i64 1] 25)) (g := w.heap.size + 2) (blk_alloc (blk_alloc (blk_new _ _) _) _) (blk_alloc (blk_newk2 (by simp)) _) (blk_newk2 (by simp)))
 refine (ws_no HX.out (Nat.le_refl 2)).mono ?_
 rintro e w1 ⟨⟨A1, c1, rfl⟩, hb1⟩
 have HB := Lib.hid (show Below w.heap.size w w1 by refine Below.trans ?_ (hb1.mono Z470); exact Z471)
 have HX := Lib.hid (show KpW w.heap.size w1 from Kd.C_below HX.out hb1)
 clear hb1
 go_wp2_with fail
 have hb1 : Below w1.heap.size w1 ((((w1.alloc (.cells #[.int .i64 2] 2)).alloc (.cells #[.int .i64 1] 2)).alloc (.cells #[.int .i64 (-1)] 2)).alloc (.cells #[.slice (some ⟨w1.heap.size, 0, none⟩) 1 1, .int .i64 (-1), .slice (some ⟨w1.heap.size + 1, 0, none⟩) 1 1, .int .i64 (-3), .slice (some ⟨w1.heap.size + 1 + 1, 0, none⟩) 1 1, .int .i64 (-3)] 25)) := Z471
 have hC := C_rows3 (w := (((w1.alloc (.cells #[.int .i64 2] 2)).alloc (.cells #[.int .i64 1] 2)).alloc (.cells #[.int .i64 (-1)] 2)).alloc (.cells #[.slice (some ⟨w1.heap.size, 0, none⟩) 1 1, .int .i64 (-1), .slice (some ⟨w1.heap.size + 1, 0, none⟩) 1 1, .int .i64 (-3), .slice (some ⟨w1.heap.size + 1 + 1, 0, none⟩) 1 1, .int .i64 (-3)] 25)) (g := w1.heap.size + 3) (blk_alloc (blk_alloc (blk_alloc (blk_new _ _) _) _) _) (blk_alloc (blk_alloc (blk_newk2 (by simp)) _) _) (blk_alloc (blk_newk2 (by simp)) _) (blk_newk2 (by simp))
 generalize (((w1.alloc (.cells #[.int .i64 2] 2)).alloc (.cells #[.int .i64 1] 2)).alloc (.cells #[.int .i64 (-1)] 2)).alloc (.cells #[.slice (some ⟨w1.heap.size, 0, none⟩) 1 1, .int .i64 (-1), .slice (some ⟨w1.heap.size + 1, 0, none⟩) 1 1, .int .i64 (-3), .slice (some ⟨w1.heap.size + 1 + 1, 0, none⟩) 1 1, .int .i64 (-3)] 25) = w2 at hb1 hC ⊢
 have HX := KpW.below HX hb1
 have HB := Lib.hid (HB.out.trans (hb1.mono HB.out.size))
 refine (ws_yes hC (Nat.le_refl 3)).mono ?_
 rintro e w3 ⟨⟨A2, c2, rfl, hP⟩, hb3⟩
 have HX := KpW.below HX hb3
 have HY := Lib.hid (show Kd.C k25 w3 (some ⟨w1.heap.size + 3, 0, none⟩) 3 wB ∧ (Kd.int .i64).C w3 A2 1 [0] from ⟨Kd.C_below hC hb3, hP⟩)
 have HB := Lib.hid (HB.out.trans (hb3.mono HB.out.size))
 clear hb1 hC hP hb3
 go_wp2_with fail
 refine (ws_not HX.out (Nat.le_refl 2)).mono ?_
 rintro e w4 ⟨⟨v1, rfl⟩, hb4⟩
 have HX := KpW.below HX hb4
 have HY := Lib.hid (And.intro (Kd.C_below HY.out.1 hb4) (Kd.C_below HY.out.2 hb4))
 have HB := Lib.hid (HB.out.trans (hb4.mono HB.out.size))
 clear hb4
 go_wp2_with fail
 refine (ws_chk (r := true) rfl HY.out.1 (Nat.le_refl 3) HY.out.2 wBin (by decide) (by decide +kernel)).mono ?_
 rintro e w5 ⟨rfl, hb5⟩
 have HX := KpW.below HX hb5
 have HB := Lib.hid (HB.out.trans (hb5.mono HB.out.size))
 clear hb5 HY
 go_wp2_with fail
 have HX := KpW.below HX ((Below.refl _ _).alloc (Nat.le_refl _) (.cells #[.int .i64 0] 2))
 refine (ws_chk (r := false) rfl HX.out (Nat.le_refl 2) (C_I1 (blk_new _ _)) wAin (by decide) (by decide +kernel)).mono ?_
 rintro e w6 ⟨rfl, hb6⟩
 have HB := Lib.hid ((HB.out.alloc HB.out.size _).trans (hb6.mono (HB.out.alloc HB.out.size _).size))
 have HX := KpW.below HX hb6
 clear hb6
 go_wp2_with fail
 have HX := KpW.below HX ((Below.refl _ _).alloc (Nat.le_refl _) (.cells #[.int .i64 (-5)] 2))
 refine (ws_chk (r := true) rfl (C_first HX.out) (by decide) (C_I1 (blk_new _ _)) (by decide) (by decide) (by decide +kernel)).mono ?_
 rintro e w7 ⟨rfl, hb7⟩
 have HB := Lib.hid ((HB.out.alloc HB.out.size _).trans (hb7.mono (HB.out.alloc HB.out.size _).size))
 clear hb7
 go_wp2
 go_ret
 exact ⟨rfl, HB.out⟩
end Go.Proofs.Ytmcfcmijopbinaa.Ln
namespace Go.Proofs.Ytmcfcmijopbinaa.Given
open Go.RowKit
def ashlarlaw12_shown.f : Option Bool := some true
theorem ashlarlaw12_shown.calls (r : Bool) (w : World) (h : ashlarlaw12_shown.f = some r) : Calls Try.prog 6 #[] w fun e w' => e = .returned (.bool r) ∧ Below w.heap.size w w' := by
 rw [← Option.some.inj h]; exact Ln.wshown_any w
end Go.Proofs.Ytmcfcmijopbinaa.Given
end
