/- ashlarlaw11.shown: what must be in any case. -/
import Derived.Test.YtbpjnkeilhfajaaGreatRxX
import Derived.Test.YtbpjnkeilhfajaaGreatLnS3
namespace Go.Proofs.YtbpjnkeilhfajaaGreat.Ln
open Go.RowKit Go.Proofs.YtbpjnkeilhfajaaGreat.Num Go.Proofs.YtbpjnkeilhfajaaGreat.Given Go.Proofs.YtbpjnkeilhfajaaGreat.Lin Go.Proofs.YtbpjnkeilhfajaaGreatW.PrintWords
set_option linter.unusedVariables false
set_option linter.unusedSimpArgs false

theorem C_of {α : Type} {d : Kd α} {w : World} {g n : Nat} {cells : Array Value} {ty : TypeId} {xs : List α} (hb : w.heap[g]? = some (.cells cells ty (0, 0))) (hl : xs.length = n) (hn : n ≤ 9223372036854775807)
    (h : ∀ j p, xs[j]? = some p → ∃ cs, cs.length = d.sz ∧ d.K w p cs ∧ ∀ i u, cs[i]? = some u → cells[j * d.sz + i]? = some u) : d.C w (some ⟨g, 0, none⟩) n xs := by
  refine ⟨hl, hn, fun _ => ⟨_, rfl, fun j p hj => ?_⟩⟩
  obtain ⟨cs, h1, h2, h3⟩ := h j p hj
  refine ⟨cs, h1, h2, fun i u hu => ?_⟩
  have e : (⟨g, 0, none⟩ : Addr).add (j * d.sz + i) = ⟨g, j * d.sz + i, none⟩ := by rw [Addr.add_lit, Nat.zero_add]
  rw [e, blk_cell hb]
  exact h3 i u hu
theorem C_I1 {w : World} {g : Nat} {ty : TypeId} {a : Int} (hb : w.heap[g]? = some (.cells #[.int .i64 a] ty (0, 0))) : (Kd.int .i64).C w (some ⟨g, 0, none⟩) 1 [a] := by
  refine C_of hb rfl (by decide) fun j p hj => ?_
  match j, hj with
  | 0, hj => obtain rfl := Option.some.inj hj; exact ⟨[.int .i64 a], rfl, rfl, fun i u hu => by match i, hu with | 0, hu => exact hu⟩
theorem C_I2 {w : World} {g : Nat} {ty : TypeId} {a b : Int} (hb : w.heap[g]? = some (.cells #[.int .i64 a, .int .i64 b] ty (0, 0))) : (Kd.int .i64).C w (some ⟨g, 0, none⟩) 2 [a, b] := by
  refine C_of hb rfl (by decide) fun j p hj => ?_
  match j, hj with
  | 0, hj => obtain rfl := Option.some.inj hj; exact ⟨[.int .i64 a], rfl, rfl, fun i u hu => by match i, hu with | 0, hu => exact hu⟩
  | 1, hj => obtain rfl := Option.some.inj hj; exact ⟨[.int .i64 b], rfl, rfl, fun i u hu => by match i, hu with | 0, hu => exact hu⟩
/-- Two rows of one number each. -/
theorem C_rows2 {w : World} {g g0 g1 : Nat} {t0 t1 ty : TypeId} {a b k l : Int} (h0 : w.heap[g0]? = some (.cells #[.int .i64 a] t0 (0, 0))) (h1 : w.heap[g1]? = some (.cells #[.int .i64 b] t1 (0, 0)))
    (hb : w.heap[g]? = some (.cells #[.slice (some ⟨g0, 0, none⟩) 1 1, .int .i64 k, .slice (some ⟨g1, 0, none⟩) 1 1, .int .i64 l] ty (0, 0))) : Kd.C k40 w (some ⟨g, 0, none⟩) 2 [⟨[a], k⟩, ⟨[b], l⟩] := by
  refine C_of hb rfl (by decide) fun j p hj => ?_
  match j, hj with
  | 0, hj => obtain rfl := Option.some.inj hj; exact ⟨_, rfl, k40_mk w ⟨[a], k⟩ (Nat.le_refl 1) (C_I1 h0), fun i u hu => by match i, hu with | 0, hu => exact hu | 1, hu => exact hu⟩
  | 1, hj => obtain rfl := Option.some.inj hj; exact ⟨_, rfl, k40_mk w ⟨[b], l⟩ (Nat.le_refl 1) (C_I1 h1), fun i u hu => by match i, hu with | 0, hu => exact hu | 1, hu => exact hu⟩
def rowsNo : List S40 := [⟨[1], -1⟩, ⟨[-1], 2⟩]
def rowsYes : List S40 := [⟨[2], -1⟩, ⟨[-2], 1⟩]
theorem noIn : ∀ r, r ∈ rowsNo → RowIn r := by decide
theorem yesIn : ∀ r, r ∈ rowsYes → RowIn r := by decide
theorem sh_no {A : Option Addr} {c : Nat} {w : World} (hC : Kd.C k40 w A 2 rowsNo) (hc : 2 ≤ c) :
    Calls Tryz.prog 19 #[.slice A 2 c, .int .i64 1, .int .i64 1000] w fun e w' => (∃ A1 c1 A2 c2, e = .returned (.tuple #[.int .i64 2, .slice A1 0 c1, .slice A2 2 c2]) ∧ (Kd.int .i64).C w' A2 2 [1, 1] ∧ 2 ≤ c2) ∧ Below w.heap.size w w' := by
  refine (Solve_any rowsNo A c 1 1000 w hC hc noIn (by decide)).mono ?_
  rintro e w' ⟨⟨vp, vw, rfl, hp, hw⟩, hb⟩
  have hs : solve (rowsNo.map toZ) 1 1000 = (2, [], [1, 1]) := by decide +kernel
  rw [hs] at hp hw ⊢
  obtain ⟨A1, c1, rfl, -, -⟩ := Kd.R_reads (RowQ.toR hp)
  obtain ⟨A2, c2, rfl, h2, h3⟩ := Kd.R_reads (RowI.toR hw)
  exact ⟨⟨A1, c1, A2, c2, rfl, h3, h2⟩, hb⟩
theorem sh_yes {A : Option Addr} {c : Nat} {w : World} (hC : Kd.C k40 w A 2 rowsYes) (hc : 2 ≤ c) :
    Calls Tryz.prog 19 #[.slice A 2 c, .int .i64 1, .int .i64 1000] w fun e w' => (∃ g c1 A2 c2, e = .returned (.tuple #[.int .i64 1, .slice (some ⟨g, 0, none⟩) 1 c1, .slice A2 0 c2]) ∧ Kd.C k28 w' (some ⟨g, 0, none⟩) 1 [⟨1, 2⟩] ∧ 1 ≤ c1 ∧ w'.cell? ⟨g, 0, none⟩ = some (.int .i64 1) ∧ w'.cell? ⟨g, 1, none⟩ = some (.int .i64 2)) ∧ Below w.heap.size w w' := by
  refine (Solve_any rowsYes A c 1 1000 w hC hc yesIn (by decide)).mono ?_
  rintro e w' ⟨⟨vp, vw, rfl, hp, hw⟩, hb⟩
  have hs : solve (rowsYes.map toZ) 1 1000 = (1, [(1 : Rat) / 2], []) := by decide +kernel
  rw [hs] at hp hw ⊢
  obtain ⟨A1, c1, rfl, h2, h3⟩ := Kd.R_reads (RowQ.toR hp)
  obtain ⟨A2, c2, rfl, -, -⟩ := Kd.R_reads (RowI.toR hw)
  obtain ⟨g, cap, eg, -, -, q0, q1, -⟩ := rowQ_at hp (i := 0) (by decide)
  injection eg with e1 e2 e3
  subst e1
  rw [show ([(1 : Rat) / 2][0]'(by decide)).num = 1 by decide +kernel] at q0
  rw [show ([(1 : Rat) / 2][0]'(by decide)).den = 2 by decide +kernel] at q1
  have e : List.map ofQ [(1 : Rat) / 2] = [⟨1, 2⟩] := by
    rw [List.map_cons, List.map_nil, ofQ, show ((1 : Rat) / 2).num = 1 by decide +kernel, show ((1 : Rat) / 2).den = 2 by decide +kernel]
    rfl
  rw [e] at h2 h3
  exact ⟨⟨g, c1, A2, c2, by rw [e]; rfl, h3, h2, q0, q1⟩, hb⟩
theorem sh_not {A : Option Addr} {c : Nat} {w : World} (hC : Kd.C k40 w A 2 rowsYes) (hc : 2 ≤ c) :
    Calls Tryz.prog 19 #[.slice A 2 c, .int .i64 2, .int .i64 1000] w fun e w' => (∃ v1 v2, e = .returned (.tuple #[.int .i64 0, v1, v2])) ∧ Below w.heap.size w w' := by
  refine (Solve_any rowsYes A c 2 1000 w hC hc yesIn (by decide)).mono ?_
  rintro e w' ⟨⟨vp, vw, rfl, hp, hw⟩, hb⟩
  have hs : solve (rowsYes.map toZ) 2 1000 = (0, [], []) := by decide +kernel
  rw [hs]
  exact ⟨⟨vp, vw, rfl⟩, hb⟩
theorem sh_farkas {A A' : Option Addr} {c c' : Nat} {w : World} {a b : Int} {r : Bool} (hC : Kd.C k40 w A 2 rowsNo) (hc : 2 ≤ c) (hV : (Kd.int .i64).C w A' 2 [a, b]) (hc' : 2 ≤ c') (hin : ∀ x, x ∈ [a, b] → In64 x) (hr : chkF rowsNo [a, b] = r) :
    Calls Tryz.prog 17 #[.slice A 2 c, .slice A' 2 c'] w fun e w' => e = .returned (.bool r) ∧ Below w.heap.size w w' := by
  rw [← hr]; exact CheckFarkas_any rowsNo [a, b] A A' c c' w hC hc hV hc' noIn hin
theorem sh_point {A A' : Option Addr} {c c' : Nat} {w : World} (hC : Kd.C k40 w A 2 rowsYes) (hc : 2 ≤ c) (hV : Kd.C k28 w A' 1 [⟨1, 2⟩]) (hc' : 1 ≤ c') :
    Calls Tryz.prog 15 #[.slice A 2 c, .slice A' 1 c'] w fun e w' => e = .returned (.bool true) ∧ Below w.heap.size w w' := by
  rw [← show chkP rowsYes [⟨1, 2⟩] = true by decide +kernel]; exact CheckPoint_any rowsYes [⟨1, 2⟩] A A' c c' w hC hc hV hc' yesIn (by decide)

/-- What shown holds on to. -/
def Kp (g : Nat) (A2 : Option Addr) (c2 g3 c3 : Nat) (W : World) : Prop := Kd.C k40 W (some ⟨g + 2, 0, none⟩) 2 rowsNo ∧ Kd.C k40 W (some ⟨g + 5, 0, none⟩) 2 rowsYes ∧ (Kd.int .i64).C W A2 2 [1, 1] ∧ 2 ≤ c2 ∧ Kd.C k28 W (some ⟨g3, 0, none⟩) 1 [⟨1, 2⟩] ∧ 1 ≤ c3 ∧ W.cell? ⟨g3, 0, none⟩ = some (.int .i64 1) ∧ W.cell? ⟨g3, 1, none⟩ = some (.int .i64 2)
theorem Kp.below {g : Nat} {A2 : Option Addr} {c2 g3 c3 : Nat} {w w1 : World} (h : Kp g A2 c2 g3 c3 w) (hb : Below w.heap.size w w1) : Kp g A2 c2 g3 c3 w1 :=
  ⟨Kd.C_below h.1 hb, Kd.C_below h.2.1 hb, Kd.C_below h.2.2.1 hb, h.2.2.2.1, Kd.C_below h.2.2.2.2.1 hb, h.2.2.2.2.2.1, kcell hb h.2.2.2.2.2.2.1, kcell hb h.2.2.2.2.2.2.2⟩

set_option maxHeartbeats 8000000 in
set_option maxRecDepth 100000 in
theorem shown_any (w : World) : Calls Tryz.prog 13 #[] w fun e w' => e = .returned (.bool true) ∧ Below w.heap.size w w' := by
  go_enter Tryz.func13, Tryz.ntmps13
  go_wp2_with fail
  obtain ⟨k0, k1, k2, k3, k4, k5⟩ := six w (.cells #[.int .i64 1] 2) (.cells #[.int .i64 (-1)] 2) (.cells #[.slice (some ⟨w.heap.size, 0, none⟩) 1 1, .int .i64 (-1), .slice (some ⟨w.heap.size + 1, 0, none⟩) 1 1, .int .i64 2] 40) (.cells #[.int .i64 2] 2) (.cells #[.int .i64 (-2)] 2) (.cells #[.slice (some ⟨w.heap.size + 1 + 1 + 1, 0, none⟩) 1 1, .int .i64 (-1), .slice (some ⟨w.heap.size + 1 + 1 + 1 + 1, 0, none⟩) 1 1, .int .i64 1] 40)
  have HX := Lib.hid (And.intro (C_rows2 k0 k1 k2) (C_rows2 k3 k4 k5))
  clear k0 k1 k2 k3 k4 k5
  refine (sh_no HX.out.1 (Nat.le_refl 2)).mono ?_
  rintro e w1 ⟨⟨A1, c1, A2, c2, rfl, hV, hc2⟩, hb1⟩
  have HB := Lib.hid (show Below w.heap.size w w1 by refine Below.trans ?_ (hb1.mono (by first | exact Nat.le_refl _ | (simp; done) | (simp; omega) | omega)); exact (by repeat (first | exact Below.refl _ _ | with_reducible assumption | refine Below.alloc ?_ (by first | exact Nat.le_refl _ | (simp; done) | (simp; omega) | omega) _ | refine Below.setCell ?_ (by first | exact Nat.le_refl _ | (simp; done) | (simp; omega) | omega) _ | refine Below.drew ?_ | refine bdrewN ?_ _)))
  have HX := Lib.hid (show Kd.C k40 w1 (some ⟨w.heap.size + 2, 0, none⟩) 2 rowsNo ∧ Kd.C k40 w1 (some ⟨w.heap.size + 5, 0, none⟩) 2 rowsYes ∧ (Kd.int .i64).C w1 A2 2 [1, 1] ∧ 2 ≤ c2 from ⟨Kd.C_below HX.out.1 hb1, Kd.C_below HX.out.2 hb1, hV, hc2⟩)
  clear hb1 hV hc2
  go_wp2_with fail
  refine (sh_yes HX.out.2.1 (Nat.le_refl 2)).mono ?_
  rintro e w2 ⟨⟨g3, c3, A4, c4, rfl, hV, hc3, q0, q1⟩, hb1⟩
  have HB := Lib.hid (HB.out.trans (hb1.mono HB.out.size))
  have HX := Lib.hid (show Kp w.heap.size A2 c2 g3 c3 w2 from ⟨Kd.C_below HX.out.1 hb1, Kd.C_below HX.out.2.1 hb1, Kd.C_below HX.out.2.2.1 hb1, HX.out.2.2.2, hV, hc3, q0, q1⟩)
  clear hb1 hV hc3 q0 q1
  go_wp2_with fail
  refine (sh_not HX.out.2.1 (Nat.le_refl 2)).mono ?_
  rintro e w3 ⟨⟨v1, v2, rfl⟩, hb1⟩
  have HB := Lib.hid (HB.out.trans (hb1.mono HB.out.size))
  have HX := Lib.hid (HX.out.below hb1)
  clear hb1
  go_wp2_with fail
  refine (sh_farkas (r := true) HX.out.1 (Nat.le_refl 2) HX.out.2.2.1 HX.out.2.2.2.1 (by decide) (by decide +kernel)).mono ?_
  rintro e w4 ⟨rfl, hb1⟩
  have HB := Lib.hid (HB.out.trans (hb1.mono HB.out.size))
  have HX := Lib.hid (HX.out.below hb1)
  clear hb1
  go_wp2_with fail
  have HX := Lib.hid (HX.out.below ((Below.refl _ _).alloc (Nat.le_refl _) (.cells #[.int .i64 3, .int .i64 3] 2)))
  refine (sh_farkas (r := true) HX.out.1 (Nat.le_refl 2) (C_I2 (blk_new _ _)) (Nat.le_refl 2) (by decide) (by decide +kernel)).mono ?_
  rintro e w5 ⟨rfl, hb1⟩
  have HB := Lib.hid ((HB.out.alloc HB.out.size _).trans (hb1.mono (HB.out.alloc HB.out.size _).size))
  have HX := Lib.hid (HX.out.below hb1)
  clear hb1
  go_wp2_with fail
  have HX := Lib.hid (HX.out.below ((Below.refl _ _).alloc (Nat.le_refl _) (.cells #[.int .i64 1, .int .i64 2] 2)))
  refine (sh_farkas (r := false) HX.out.1 (Nat.le_refl 2) (C_I2 (blk_new _ _)) (Nat.le_refl 2) (by decide) (by decide +kernel)).mono ?_
  rintro e w6 ⟨rfl, hb1⟩
  have HB := Lib.hid ((HB.out.alloc HB.out.size _).trans (hb1.mono (HB.out.alloc HB.out.size _).size))
  have HX := Lib.hid (HX.out.below hb1)
  have q0 := HX.out.2.2.2.2.2.2.1
  have q1 := HX.out.2.2.2.2.2.2.2
  clear hb1
  go_wp2_with fail
  refine (sh_point HX.out.2.1 (Nat.le_refl 2) HX.out.2.2.2.2.1 HX.out.2.2.2.2.2.1).mono ?_
  rintro e w7 ⟨rfl, hb1⟩
  have HB := Lib.hid (HB.out.trans (hb1.mono HB.out.size))
  clear hb1
  go_wp2
  go_ret
  exact ⟨rfl, HB.out⟩

end Go.Proofs.YtbpjnkeilhfajaaGreat.Ln
