import Derived.Test.YtbpjnkeilhfajaaGreatWnE
import Derived.Test.YtbpjnkeilhfajaaGreatRwX12
section
/- whole in the printer's form; ashlarlaw12.shown. -/
namespace Go.Proofs
theorem Z510 {p : Prop} (h : p := by first | exact Nat.le_refl _ | (simp; done) | (simp; omega) | omega) : p := h
theorem Z511 {p : Prop} (h : p := by repeat (first | exact Below.refl _ _ | with_reducible assumption | refine Below.alloc ?_ (by first | exact Nat.le_refl _ | (simp; done) | (simp; omega) | omega) _ | refine Below.setCell ?_ (by first | exact Nat.le_refl _ | (simp; done) | (simp; omega) | omega) _ | refine Below.drew ?_ | refine bdrewN ?_ _)) : p := h
end Go.Proofs
namespace Go.Proofs.YtbpjnkeilhfajaaGreat.Ln
open Go.RowKit Go.Proofs.YtbpjnkeilhfajaaGreat.Num Go.Proofs.YtbpjnkeilhfajaaGreat.Given Go.Proofs.YtbpjnkeilhfajaaGreat.Lin Go.Proofs.YtbpjnkeilhfajaaGreatW.PrintWords
set_option linter.unusedVariables false
set_option linter.unusedSimpArgs false
theorem C_of {α : Type} {d : Kd α} {w : World} {g n : Nat} {cells : Array Value} {ty : TypeId} {xs : List α} (hb : w.heap[g]? = some (.cells cells ty (0, 0))) (hl : xs.length = n) (hn : n ≤ 9223372036854775807)
  (h : ∀ j p, xs[j]? = some p → ∃ cs, cs.length = d.sz ∧ d.K w p cs ∧ ∀ i u, cs[i]? = some u → cells[j * d.sz + i]? = some u) : d.C w (some ⟨g, 0, none⟩) n xs := by
 refine ⟨hl, hn, fun _ => ⟨_, rfl, fun j p hj => ?_⟩⟩
 obtain ⟨cs, h1, h2, h3⟩ := h j p hj
 refine ⟨cs, h1, h2, fun i u hu => ?_⟩
 have e : (⟨g, 0, none⟩ : Addr).add (j * d.sz + i) = ⟨g, j * d.sz + i, none⟩ := by rw [Addr.add_lit, Nat.zero_add]
 rw [e, blk_cell hb]
 exact h3 i u hu
theorem C_I1 {w : World} {g : Nat} {ty : TypeId} {a : Int} (hb : w.heap[g]? = some (.cells #[.int .i64 a] ty (0, 0))) : (Kd.int .i64).C w (some ⟨g, 0, none⟩) 1 [a] := by
 refine C_of hb rfl (by decide) fun j p hj => ?_
 match j, hj with
 | 0, hj => obtain rfl := Option.some.inj hj; exact ⟨[.int .i64 a], rfl, rfl, fun i u hu => by match i, hu with | 0, hu => exact hu⟩
theorem C_rows2 {w : World} {g g0 g1 : Nat} {t0 t1 ty : TypeId} {a b k l : Int} (h0 : w.heap[g0]? = some (.cells #[.int .i64 a] t0 (0, 0))) (h1 : w.heap[g1]? = some (.cells #[.int .i64 b] t1 (0, 0)))
  (hb : w.heap[g]? = some (.cells #[.slice (some ⟨g0, 0, none⟩) 1 1, .int .i64 k, .slice (some ⟨g1, 0, none⟩) 1 1, .int .i64 l] ty (0, 0))) : Kd.C k40 w (some ⟨g, 0, none⟩) 2 [⟨[a], k⟩, ⟨[b], l⟩] := by
 refine C_of hb rfl (by decide) fun j p hj => ?_
 match j, hj with
 | 0, hj => obtain rfl := Option.some.inj hj; exact ⟨_, rfl, k40_mk w ⟨[a], k⟩ (Nat.le_refl 1) (C_I1 h0), fun i u hu => by match i, hu with | 0, hu => exact hu | 1, hu => exact hu⟩
 | 1, hj => obtain rfl := Option.some.inj hj; exact ⟨_, rfl, k40_mk w ⟨[b], l⟩ (Nat.le_refl 1) (C_I1 h1), fun i u hu => by match i, hu with | 0, hu => exact hu | 1, hu => exact hu⟩
theorem C_rows3 {w : World} {g g0 g1 g2 : Nat} {t0 t1 t2 ty : TypeId} {a b d k l m : Int} (h0 : w.heap[g0]? = some (.cells #[.int .i64 a] t0 (0, 0))) (h1 : w.heap[g1]? = some (.cells #[.int .i64 b] t1 (0, 0))) (h2 : w.heap[g2]? = some (.cells #[.int .i64 d] t2 (0, 0)))
  (hb : w.heap[g]? = some (.cells #[.slice (some ⟨g0, 0, none⟩) 1 1, .int .i64 k, .slice (some ⟨g1, 0, none⟩) 1 1, .int .i64 l, .slice (some ⟨g2, 0, none⟩) 1 1, .int .i64 m] ty (0, 0))) : Kd.C k40 w (some ⟨g, 0, none⟩) 3 [⟨[a], k⟩, ⟨[b], l⟩, ⟨[d], m⟩] := by
 refine C_of hb rfl (by decide) fun j p hj => ?_
 match j, hj with
 | 0, hj => obtain rfl := Option.some.inj hj; exact ⟨_, rfl, k40_mk w ⟨[a], k⟩ (Nat.le_refl 1) (C_I1 h0), fun i u hu => by match i, hu with | 0, hu => exact hu | 1, hu => exact hu⟩
 | 1, hj => obtain rfl := Option.some.inj hj; exact ⟨_, rfl, k40_mk w ⟨[b], l⟩ (Nat.le_refl 1) (C_I1 h1), fun i u hu => by match i, hu with | 0, hu => exact hu | 1, hu => exact hu⟩
 | 2, hj => obtain rfl := Option.some.inj hj; exact ⟨_, rfl, k40_mk w ⟨[d], m⟩ (Nat.le_refl 1) (C_I1 h2), fun i u hu => by match i, hu with | 0, hu => exact hu | 1, hu => exact hu⟩
theorem C_first {α : Type} {d : Kd α} {w : World} {A : Option Addr} {x y : α} (h : d.C w A 2 [x, y]) : d.C w A 1 [x] := by
 obtain ⟨h1, h2, h3⟩ := h
 refine ⟨rfl, by omega, fun _ => ?_⟩
 obtain ⟨ad, e, h⟩ := h3 (by decide)
 refine ⟨ad, e, fun j p hj => h j p ?_⟩
 match j, hj with
 | 0, hj => exact hj
def wA : List S40 := [⟨[2], -1⟩, ⟨[-2], 1⟩]
def wB : List S40 := [⟨[2], -1⟩, ⟨[1], -3⟩, ⟨[-1], -3⟩]
theorem wAin : ∀ r, r ∈ wA → RowIn r := by decide
theorem wBin : ∀ r, r ∈ wB → RowIn r := by decide
theorem ws_no {A : Option Addr} {c : Nat} {w : World} (hC : Kd.C k40 w A 2 wA) (hc : 2 ≤ c) :
  Calls Tryz.prog 31 #[.slice A 2 c, .int .i64 1, .int .i64 1000] w fun e w' => (∃ A1 c1, e = .returned (.tuple #[.int .i64 2, .slice A1 0 c1])) ∧ Below w.heap.size w w' := by
 refine (wsolve_any wA A c 1 1000 w hC hc wAin (by decide) (by decide)).mono ?_
 rintro e w' ⟨⟨vp, rfl, hp⟩, hb⟩
 have hs : wsolve (wA.map toZ) 1 1000 (chkW (wA.map toZ)) = (2, []) := by decide +kernel
 rw [hs] at hp ⊢
 obtain ⟨A1, c1, rfl, -, -⟩ := Kd.R_reads (RowI.toR hp)
 exact ⟨⟨A1, c1, rfl⟩, hb⟩
theorem ws_yes {A : Option Addr} {c : Nat} {w : World} (hC : Kd.C k40 w A 3 wB) (hc : 3 ≤ c) :
  Calls Tryz.prog 31 #[.slice A 3 c, .int .i64 1, .int .i64 1000] w fun e w' => (∃ A1 c1, e = .returned (.tuple #[.int .i64 1, .slice A1 1 c1]) ∧ (Kd.int .i64).C w' A1 1 [0]) ∧ Below w.heap.size w w' := by
 refine (wsolve_any wB A c 1 1000 w hC hc wBin (by decide) (by decide)).mono ?_
 rintro e w' ⟨⟨vp, rfl, hp⟩, hb⟩
 have hs : wsolve (wB.map toZ) 1 1000 (chkW (wB.map toZ)) = (1, [0]) := by decide +kernel
 rw [hs] at hp ⊢
 obtain ⟨A1, c1, rfl, h1, h2⟩ := Kd.R_reads (RowI.toR hp)
 exact ⟨⟨A1, c1, rfl, h2⟩, hb⟩
theorem ws_not {A : Option Addr} {c : Nat} {w : World} (hC : Kd.C k40 w A 2 wA) (hc : 2 ≤ c) :
  Calls Tryz.prog 31 #[.slice A 2 c, .int .i64 1, .int .i64 0] w fun e w' => (∃ v1, e = .returned (.tuple #[.int .i64 0, v1])) ∧ Below w.heap.size w w' := by
 refine (wsolve_any wA A c 1 0 w hC hc wAin (by decide) (by decide)).mono ?_
 rintro e w' ⟨⟨vp, rfl, hp⟩, hb⟩
 have hs : wsolve (wA.map toZ) 1 0 (chkW (wA.map toZ)) = (0, []) := by decide +kernel
 rw [hs]
 exact ⟨⟨vp, rfl⟩, hb⟩
theorem ws_chk {n : Nat} {l : List S40} {p : Int} {r : Bool} {A A' : Option Addr} {c c' : Nat} {w : World} (hn : l.length = n) (hC : Kd.C k40 w A n l) (hc : n ≤ c) (hP : (Kd.int .i64).C w A' 1 [p]) (hin : ∀ r, r ∈ l → RowIn r) (hp : In64 p) (hr : chkW (l.map toZ) [p] = r) :
  Calls Tryz.prog 28 #[.slice A n c, .slice A' 1 c'] w fun e w' => e = .returned (.bool r) ∧ Below w.heap.size w w' := by
 subst hn
 rw [← hr]; exact wcheck_any l [p] A A' c c' w hC hc hP hin (fun y hy => by rw [List.mem_singleton.1 hy]; exact hp)
def KpW (g : Nat) (W : World) : Prop := Kd.C k40 W (some ⟨g + 2, 0, none⟩) 2 wA
theorem KpW.below {g : Nat} {w w1 : World} (h : Hid (KpW g w)) (hb : Below w.heap.size w w1) : Hid (KpW g w1) := Lib.hid (Kd.C_below h.out hb)
set_option maxHeartbeats 8000000 in
set_option maxRecDepth 100000 in
theorem wshown_any (w : World) : Calls Tryz.prog 26 #[] w fun e w' => e = .returned (.bool true) ∧ Below w.heap.size w w' := by
 go_enter Tryz.func26, Tryz.ntmps26
 go_wp2_with fail
 have HX := Lib.hid (C_rows2 (w := ((w.alloc (.cells #[.int .i64 2] 2)).alloc (.cells #[.int .i64 (-2)] 2)).alloc (.cells #[.slice (some ⟨w.heap.size, 0, none⟩) 1 1, .int .i64 (-1), .slice (some ⟨w.heap.size + 1, 0, none⟩) 1 1, .int .i64 1] 40)) (g := w.heap.size + 2) (blk_alloc (blk_alloc (blk_new _ _) _) _) (blk_alloc (blk_newk2 (by simp)) _) (blk_newk2 (by simp)))
 refine (ws_no HX.out (Nat.le_refl 2)).mono ?_
 rintro e w1 ⟨⟨A1, c1, rfl⟩, hb1⟩
 have HB := Lib.hid (show Below w.heap.size w w1 by refine Below.trans ?_ (hb1.mono Z510); exact Z511)
 have HX := Lib.hid (show KpW w.heap.size w1 from Kd.C_below HX.out hb1)
 clear hb1
 go_wp2_with fail
 have hb1 : Below w1.heap.size w1 ((((w1.alloc (.cells #[.int .i64 2] 2)).alloc (.cells #[.int .i64 1] 2)).alloc (.cells #[.int .i64 (-1)] 2)).alloc (.cells #[.slice (some ⟨w1.heap.size, 0, none⟩) 1 1, .int .i64 (-1), .slice (some ⟨w1.heap.size + 1, 0, none⟩) 1 1, .int .i64 (-3), .slice (some ⟨w1.heap.size + 1 + 1, 0, none⟩) 1 1, .int .i64 (-3)] 40)) := Z511
 have hC := C_rows3 (w := (((w1.alloc (.cells #[.int .i64 2] 2)).alloc (.cells #[.int .i64 1] 2)).alloc (.cells #[.int .i64 (-1)] 2)).alloc (.cells #[.slice (some ⟨w1.heap.size, 0, none⟩) 1 1, .int .i64 (-1), .slice (some ⟨w1.heap.size + 1, 0, none⟩) 1 1, .int .i64 (-3), .slice (some ⟨w1.heap.size + 1 + 1, 0, none⟩) 1 1, .int .i64 (-3)] 40)) (g := w1.heap.size + 3) (blk_alloc (blk_alloc (blk_alloc (blk_new _ _) _) _) _) (blk_alloc (blk_alloc (blk_newk2 (by simp)) _) _) (blk_alloc (blk_newk2 (by simp)) _) (blk_newk2 (by simp))
 generalize (((w1.alloc (.cells #[.int .i64 2] 2)).alloc (.cells #[.int .i64 1] 2)).alloc (.cells #[.int .i64 (-1)] 2)).alloc (.cells #[.slice (some ⟨w1.heap.size, 0, none⟩) 1 1, .int .i64 (-1), .slice (some ⟨w1.heap.size + 1, 0, none⟩) 1 1, .int .i64 (-3), .slice (some ⟨w1.heap.size + 1 + 1, 0, none⟩) 1 1, .int .i64 (-3)] 40) = w2 at hb1 hC ⊢
 have HX := KpW.below HX hb1
 have HB := Lib.hid (HB.out.trans (hb1.mono HB.out.size))
 refine (ws_yes hC (Nat.le_refl 3)).mono ?_
 rintro e w3 ⟨⟨A2, c2, rfl, hP⟩, hb3⟩
 have HX := KpW.below HX hb3
 have HY := Lib.hid (show Kd.C k40 w3 (some ⟨w1.heap.size + 3, 0, none⟩) 3 wB ∧ (Kd.int .i64).C w3 A2 1 [0] from ⟨Kd.C_below hC hb3, hP⟩)
 have HB := Lib.hid (HB.out.trans (hb3.mono HB.out.size))
 clear hb1 hC hP hb3
 go_wp2_with fail
 refine (ws_not HX.out (Nat.le_refl 2)).mono ?_
 rintro e w4 ⟨⟨v1, rfl⟩, hb4⟩
 have HX := KpW.below HX hb4
 have HY := Lib.hid (And.intro (Kd.C_below HY.out.1 hb4) (Kd.C_below HY.out.2 hb4))
 have HB := Lib.hid (HB.out.trans (hb4.mono HB.out.size))
 clear hb4
 go_wp2_with fail
 refine (ws_chk (r := true) rfl HY.out.1 (Nat.le_refl 3) HY.out.2 wBin (by decide) (by decide +kernel)).mono ?_
 rintro e w5 ⟨rfl, hb5⟩
 have HX := KpW.below HX hb5
 have HB := Lib.hid (HB.out.trans (hb5.mono HB.out.size))
 clear hb5 HY
 go_wp2_with fail
 have HX := KpW.below HX ((Below.refl _ _).alloc (Nat.le_refl _) (.cells #[.int .i64 0] 2))
 refine (ws_chk (r := false) rfl HX.out (Nat.le_refl 2) (C_I1 (blk_new _ _)) wAin (by decide) (by decide +kernel)).mono ?_
 rintro e w6 ⟨rfl, hb6⟩
 have HB := Lib.hid ((HB.out.alloc HB.out.size _).trans (hb6.mono (HB.out.alloc HB.out.size _).size))
 have HX := KpW.below HX hb6
 clear hb6
 go_wp2_with fail
 have HX := KpW.below HX ((Below.refl _ _).alloc (Nat.le_refl _) (.cells #[.int .i64 (-5)] 2))
 refine (ws_chk (r := true) rfl (C_first HX.out) (by decide) (C_I1 (blk_new _ _)) (by decide) (by decide) (by decide +kernel)).mono ?_
 rintro e w7 ⟨rfl, hb7⟩
 have HB := Lib.hid ((HB.out.alloc HB.out.size _).trans (hb7.mono (HB.out.alloc HB.out.size _).size))
 clear hb7
 go_wp2
 go_ret
 exact ⟨rfl, HB.out⟩
end Go.Proofs.YtbpjnkeilhfajaaGreat.Ln
namespace Go.Proofs.YtbpjnkeilhfajaaGreat.Given
open Go.RowKit
def ashlarlaw12_shown.f : Option Bool := some true
theorem ashlarlaw12_shown.calls (r : Bool) (w : World) (h : ashlarlaw12_shown.f = some r) : Calls Tryz.prog 26 #[] w fun e w' => e = .returned (.bool r) ∧ Below w.heap.size w w' := by
 rw [← Option.some.inj h]; exact Ln.wshown_any w
end Go.Proofs.YtbpjnkeilhfajaaGreat.Given
end

section
/- What the laws of layer 12 have in common. -/
namespace Go.Proofs.YtbpjnkeilhfajaaGreat.Rw
open Go.RowKit Go.Proofs.YtbpjnkeilhfajaaGreat.Given Go.Proofs.YtbpjnkeilhfajaaGreatW.PrintWords Go.Proofs.YtbpjnkeilhfajaaGreatW.PrintLast Go.Proofs.YtbpjnkeilhfajaaGreat.Num Go.Proofs.YtbpjnkeilhfajaaGreat.Ln Go.Proofs.YtbpjnkeilhfajaaGreat.Lin
set_option linter.unusedVariables false
set_option linter.unusedSimpArgs false
theorem and64k (v : Int) : ∃ n : Nat, (∀ m : Nat, 0 < m → Int.tmod (Go.bits .and .i64 v 65535) m = ((n % m : Nat) : Int)) ∧ n < 65536 := by
 have h7 : (BitVec.ofInt 64 65535).toNat = 2 ^ 16 - 1 := by decide
 have key : (BitVec.ofInt 64 v &&& BitVec.ofInt 64 65535).toNat = (v % ((2 ^ 64 : Nat) : Int)).toNat % 2 ^ 16 := by
  rw [BitVec.toNat_and, BitVec.toNat_ofInt, h7, Nat.and_two_pow_sub_one_eq_mod]
 have hb : Go.bits .and .i64 v 65535 = v % 65536 := by
  show IntKind.i64.wrap ((BitVec.ofInt 64 v &&& BitVec.ofInt 64 65535).toNat : Nat) = v % 65536
  rw [key, IntKind.wrap_i64]
  omega
 refine ⟨(v % 65536).toNat, fun m hm => ?_, by omega⟩
 rw [hb]
 have h0 : v % 65536 = (((v % 65536).toNat : Nat) : Int) := by omega
 rw [h0, Int.toNat_natCast]
 exact Int.tmod_eq_emod_of_nonneg (by omega)
theorem small_s9 {lim n : Nat} {l : List S40} : (smallL lim n l).length ≤ lim ∧ ∀ r, r ∈ smallL lim n l → Small9 n r := by
 have ht : ∀ a : Int, (a.tmod 10).natAbs ≤ 9 := fun a => by
  have h1 := Int.tmod_lt_of_pos a (show (0 : Int) < 10 by decide)
  have h2 := Int.lt_tmod_of_pos a (show (0 : Int) < 10 by decide)
  omega
 refine ⟨by unfold smallL; rw [List.length_map, List.length_take]; omega, fun r hr => ?_⟩
 obtain ⟨y, hy, rfl⟩ := List.mem_map.1 hr
 refine ⟨by simp [smallR], fun x hx => ?_, ht _⟩
 obtain ⟨k, hk, rfl⟩ := List.mem_map.1 hx
 exact ht _
theorem s9_in {n : Nat} {r : S40} (h : Small9 n r) : RowIn r := ⟨⟨by have := h.2.2; omega, by have := h.2.2; omega⟩, fun y hy => by have := h.2.1 y hy; exact ⟨by omega, by omega⟩⟩
theorem s9_z {n : Nat} {l : List S40} (h : ∀ r, r ∈ l → Small9 n r) : ∀ r, r ∈ l.map toZ → r.1.length = n ∧ (∀ x, x ∈ r.1 → x.natAbs ≤ 9) ∧ r.2.natAbs ≤ 9 := by
 intro r hr
 obtain ⟨s, hs, rfl⟩ := List.mem_map.1 hr
 exact h s hs
theorem box_z : ∀ {n : Nat}, n ≤ 3 → (boxL n n).map toZ = boxZ n ∧ ∀ r, r ∈ boxL n n → Small9 n r
 | 0, _ => ⟨rfl, fun r hr => by cases hr⟩
 | 1, _ => ⟨rfl, by unfold Small9; decide⟩
 | 2, _ => ⟨rfl, by unfold Small9; decide⟩
 | 3, _ => ⟨rfl, by unfold Small9; decide⟩
 | n + 4, h => by omega
theorem wsolve_in {l : List S40} {v f : Int} (hin : ∀ r, r ∈ l → RowIn r) : ∀ y, y ∈ (wsolve (l.map toZ) v f (chkW (l.map toZ))).2 → In64 y := by
 intro y hy
 unfold wsolve at hy
 split at hy
 ·split at hy
  ·exact srch_in v _ _ l hin y hy
  ·cases hy
 ·cases hy
theorem wsolve_len {rows : List RowZ} {v f : Int} {p : List Int} (h : wsolve rows v f (chkW rows) = (1, p)) : p.length = v.toNat := by
 unfold wsolve at h
 split at h
 ·rename_i h1
  split at h
  ·rw [← (Prod.mk.inj h).2]; exact srch_len v _ _ rows h1
  ·cases (Prod.mk.inj h).1
 ·rename_i h1
  exact absurd (Prod.mk.inj h).1 h1
theorem wsolve_at {l : List S40} {A : Option Addr} {c : Nat} {v f : Int} {w : World} {ans : Int} {p : List Int} (hC : Kd.C k40 w A l.length l) (hc : l.length ≤ c) (hin : ∀ r, r ∈ l → RowIn r) (hf : In64 f) (hld : l.length + f.toNat ≤ 100000) (h : wsolve (l.map toZ) v f (chkW (l.map toZ)) = (ans, p)) :
  Calls Tryz.prog 31 #[.slice A l.length c, .int .i64 v, .int .i64 f] w fun e w' => (∃ A' c', e = .returned (.tuple #[.int .i64 ans, .slice A' p.length c']) ∧ (Kd.int .i64).C w' A' p.length p) ∧ Below w.heap.size w w' := by
 refine (wsolve_any l A c v f w hC hc hin hf hld).mono ?_
 rw [h]
 rintro e w' ⟨⟨vp, rfl, hp⟩, hb⟩
 obtain ⟨A', c', rfl, hC'⟩ := rowI_read hp
 exact ⟨⟨A', c', rfl, hC'⟩, hb⟩
end Go.Proofs.YtbpjnkeilhfajaaGreat.Rw
end
