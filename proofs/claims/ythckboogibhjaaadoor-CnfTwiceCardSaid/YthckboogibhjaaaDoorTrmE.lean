/- term.same, term.Same, slices.EqualFunc over term.same. -/
import Derived.Test.YthckboogibhjaaaDoorTrmD
namespace Go.Proofs.YthckboogibhjaaaDoor.Trm
set_option linter.unusedVariables false
set_option linter.unusedSimpArgs false
open Go.RowKit Go.Proofs.YthckboogibhjaaaDoorW.PrintWords Go.Proofs.YthckboogibhjaaaDoorW.PrintMore

mutual
/-- term.same. -/
def sameT : S24 → S24 → Bool
  | ⟨op, nm, n, l⟩, u => decide (op = u.f0) && decide (nm.toList = u.f1.toList) && decide (n = u.f2) && sameL l u.f3
def sameL : List S24 → List S24 → Bool
  | [], [] => true
  | x :: l, y :: m => sameT x y && sameL l m
  | [], _ :: _ => false
  | _ :: _, [] => false
end
theorem sameT_mk (t u : S24) : sameT t u = (decide (t.f0 = u.f0) && decide (t.f1.toList = u.f1.toList) && decide (t.f2 = u.f2) && sameL t.f3 u.f3) := by cases t; rw [sameT]
theorem sameL_len : ∀ {l m : List S24}, l.length ≠ m.length → sameL l m = false
  | [], [], h => absurd rfl h
  | [], _ :: _, _ => by rw [sameL]
  | _ :: _, [], _ => by rw [sameL]
  | x :: l, y :: m, h => by rw [sameL, sameL_len (by simpa using h), Bool.and_false]

/-- An element of a row of terms. -/
theorem el_T {W : World} {A : Option Addr} {l : List S24} (hC : Kd.C k24 W A l.length l) {j : Nat} (h : j < l.length) :
    ∃ ad A' c', A = some ad ∧ W.cell? (ad.add (j * 4)) = some (.int .i64 l[j].f0) ∧ W.cell? ⟨(ad.add (j * 4)).block, (ad.add (j * 4)).off + 1, none⟩ = some (.string l[j].f1) ∧ W.cell? ⟨(ad.add (j * 4)).block, (ad.add (j * 4)).off + 2, none⟩ = some (.int .i64 l[j].f2) ∧ W.cell? ⟨(ad.add (j * 4)).block, (ad.add (j * 4)).off + 3, none⟩ = some (.slice A' l[j].f3.length c') ∧ l[j].f3.length ≤ c' ∧ Kd.C k24 W A' l[j].f3.length l[j].f3 := by
  have := at_T24 hC (j : Int) (by omega) (by omega)
  have e : rd_T24 l (j : Int) = l[j] := by simp [rd_T24, List.getElem?_eq_getElem h]
  rw [e, Int.toNat_natCast] at this
  exact this

theorem below_two {w wr w5 : World} (h : Below w.heap.size w wr) (o1 o2 : Obj) (hb : Below ((wr.alloc o1).alloc o2).heap.size ((wr.alloc o1).alloc o2) w5) : Below w.heap.size w w5 := by
  have hs := h.size
  have h2 := (h.alloc hs o1).alloc (by simp; omega) o2
  exact h2.trans (hb.mono h2.size)

set_option maxHeartbeats 8000000 in
set_option maxRecDepth 100000 in
theorem eq_any (l m : List S24) (A1 A2 : Option Addr) (c1 c2 : Nat) (w0 w : World) (C1 : Kd.C k24 w0 A1 l.length l) (hc1 : l.length ≤ c1) (C2 : Kd.C k24 w0 A2 m.length m) (hc2 : m.length ≤ c2) (hB : Below w0.heap.size w0 w)
    (H : ∀ x, x ∈ l → ∀ (y : S24) (A A' : Option Addr) (c c' : Nat) (W : World), Kd.C k24 w0 A x.f3.length x.f3 → x.f3.length ≤ c → Kd.C k24 w0 A' y.f3.length y.f3 → y.f3.length ≤ c' → Below w0.heap.size w0 W →
      Calls Tryd.prog 53 #[.agg #[.int .i64 x.f0, .string x.f1, .int .i64 x.f2, .slice A x.f3.length c], .agg #[.int .i64 y.f0, .string y.f1, .int .i64 y.f2, .slice A' y.f3.length c']] W fun e w' => e = .returned (.bool (sameT x y)) ∧ Below W.heap.size W w') :
    Calls Tryd.prog 58 #[.slice A1 l.length c1, .slice A2 m.length c2, .func (.func 53) #[] #[]] w fun e w' => e = .returned (.bool (sameL l m)) ∧ Below w.heap.size w w' := by
  have HC1 := Lib.hid C1
  have HC2 := Lib.hid C2
  have HB := Lib.hid hB
  have HH := Lib.hid H
  clear C1 C2 hB H
  by_cases hlen : l.length = m.length
  · have hl : ((l.length : Int) != (m.length : Int)) = false := by simp [hlen]
    have HLEN := Lib.hid hlen
    clear hlen
    go_enter Tryd.func58, Tryd.ntmps58
    go_wp2
    all_goals (try (exfalso; omega))
    go_loopw [17] (fun v wr => ∃ j : Nat, j ≤ l.length ∧ v = .int .i64 j ∧ sameL l m = sameL (l.drop j) (m.drop j) ∧ Below w.heap.size w wr) (fun v _ => l.length - (intOf v).toNat)
    case atStart => exact ⟨0, Nat.zero_le _, rfl, by rw [List.drop_zero, List.drop_zero], Below.refl _ _⟩
    case round =>
      obtain ⟨j, hj, rfl, hL, hbr⟩ := hrel
      by_cases hjl : j < l.length
      · have hmax := Kd.C_max HC1.out
        have hjm : j < m.length := HLEN.out ▸ hjl
        obtain ⟨ad, A', c', e, x0, x1, x2, x3, l', C'⟩ := el_T HC1.out hjl
        obtain ⟨bd, B', d', e2, y0, y1, y2, y3, m', D'⟩ := el_T HC2.out hjm
        have hbw : Below w0.heap.size w0 wr := HB.out.trans (hbr.mono HB.out.size)
        rw [List.drop_eq_getElem_cons hjl, List.drop_eq_getElem_cons hjm, sameL] at hL
        have hmem : l[j] ∈ l := List.getElem_mem hjl
        have HX := Lib.hid (HH.out l[j] hmem m[j])
        generalize l[j] = x at *
        generalize m[j] = y at *
        have ycell : ∀ o, (wr.alloc o).cell? (bd.add (j * 4)) = some (.int .i64 y.f0) ∧ (wr.alloc o).cell? ⟨(bd.add (j * 4)).block, (bd.add (j * 4)).off + 1, none⟩ = some (.string y.f1) ∧ (wr.alloc o).cell? ⟨(bd.add (j * 4)).block, (bd.add (j * 4)).off + 2, none⟩ = some (.int .i64 y.f2) ∧ (wr.alloc o).cell? ⟨(bd.add (j * 4)).block, (bd.add (j * 4)).off + 3, none⟩ = some (.slice B' y.f3.length d') := by
          intro o
          have hbo : Below w0.heap.size w0 (wr.alloc o) := hbw.alloc hbw.size o
          exact ⟨(hbo.cell (World.block_lt_of_cell? w0 _ y0)).trans y0, (hbo.cell (World.block_lt_of_cell? w0 _ y1)).trans y1, (hbo.cell (World.block_lt_of_cell? w0 _ y2)).trans y2, (hbo.cell (World.block_lt_of_cell? w0 _ y3)).trans y3⟩
        replace x0 := (hbw.cell (World.block_lt_of_cell? w0 _ x0)).trans x0
        replace x1 := (hbw.cell (World.block_lt_of_cell? w0 _ x1)).trans x1
        replace x2 := (hbw.cell (World.block_lt_of_cell? w0 _ x2)).trans x2
        replace x3 := (hbw.cell (World.block_lt_of_cell? w0 _ x3)).trans x3
        have zy := World.block_lt_of_cell? w0 _ y0
        have zw : (bd.add (j * 4)).block < wr.heap.size := Nat.lt_of_lt_of_le zy hbw.size
        replace y0 := (hbw.cell (World.block_lt_of_cell? w0 _ y0)).trans y0
        replace y1 := (hbw.cell (World.block_lt_of_cell? w0 _ y1)).trans y1
        replace y2 := (hbw.cell (World.block_lt_of_cell? w0 _ y2)).trans y2
        replace y3 := (hbw.cell (World.block_lt_of_cell? w0 _ y3)).trans y3
        subst e e2
        have pj : ((j : Int) < (m.length : Int)) = True := eq_true (by omega)
        have hj9 : j + 1 < 9223372036854775808 := by clear pj hl HLEN; omega
        have EW := Lib.hid (wrapj hj9)
        have HL := Lib.hid hL
        have HBR := Lib.hid hbr
        have HBW := Lib.hid hbw
        have YC := Lib.hid ycell
        have HCx := Lib.hid C'
        have HDy := Lib.hid D'
        clear hL hbr hbw ycell C' D' hmax
        cases hxy : sameT x y with
        | false =>
          go_wp2_with (go_at_call 53; refine (HX.out _ _ _ _ _ HCx.out l' HDy.out m' ?b1).mono ?_; (case b1 => exact (HBW.out.alloc HBW.out.size _).alloc (by have := HBW.out.size; simp; omega) _); rw [hxy]; rintro e w5 ⟨rfl, hb5⟩; have HB5 := Lib.hid (below_two HBR.out _ _ hb5); clear hb5)
          exact bodyPost_ret (v := .bool false) (by simp [results, Tryd.results58, go_sem]) rfl ⟨by rw [HL.out, hxy, Bool.false_and], HB5.out⟩
        | true =>
          go_wp2_with (go_at_call 53; refine (HX.out _ _ _ _ _ HCx.out l' HDy.out m' ?b1).mono ?_; (case b1 => exact (HBW.out.alloc HBW.out.size _).alloc (by have := HBW.out.size; simp; omega) _); rw [hxy]; rintro e w5 ⟨rfl, hb5⟩; have HB5 := Lib.hid (below_two HBR.out _ _ hb5); clear hb5)
          have HL2 := HL.out
          rw [hxy, Bool.true_and] at HL2
          refine ⟨⟨j + 1, hjl, by first | rfl | rw [EW.out], HL2, HB5.out⟩, ?_⟩
          first
          | exact Nat.sub_lt_sub_left hjl (Nat.lt_succ_self _)
          | (simp only [EW.out, intOf, Int.toNat_natCast]; exact Nat.sub_lt_sub_left hjl (Nat.lt_succ_self _))
      · have hjj : j = l.length := by omega
        subst hjj
        rw [List.drop_length, HLEN.out, List.drop_length, sameL] at hL
        go_wp2
        exact bodyPost_ret (v := .bool true) (by simp [results, Tryd.results58, go_sem]) rfl ⟨by rw [hL], hbr⟩
  · have hs := sameL_len hlen
    rw [hs]
    go_enter Tryd.func58, Tryd.ntmps58
    go_wp2
    all_goals (try (exfalso; omega))
    exact bodyPost_ret (v := .bool false) (by simp [results, Tryd.results58, go_sem]) rfl ⟨rfl, (by repeat (first | exact Below.refl _ _ | with_reducible assumption | refine Below.alloc ?_ (by first | exact Nat.le_refl _ | (simp; done) | (simp; omega) | omega) _ | refine Below.setCell ?_ (by first | exact Nat.le_refl _ | (simp; done) | (simp; omega) | omega) _ | refine Below.drew ?_ | refine bdrewN ?_ _))⟩

set_option maxHeartbeats 8000000 in
set_option maxRecDepth 100000 in
theorem same_any : ∀ (n : Nat) (t : S24), tsize t ≤ n → ∀ (u : S24) (A A' : Option Addr) (c c' : Nat) (w0 w : World),
    Kd.C k24 w0 A t.f3.length t.f3 → t.f3.length ≤ c → Kd.C k24 w0 A' u.f3.length u.f3 → u.f3.length ≤ c' → Below w0.heap.size w0 w →
    Calls Tryd.prog 53 #[.agg #[.int .i64 t.f0, .string t.f1, .int .i64 t.f2, .slice A t.f3.length c], .agg #[.int .i64 u.f0, .string u.f1, .int .i64 u.f2, .slice A' u.f3.length c']] w fun e w' => e = .returned (.bool (sameT t u)) ∧ Below w.heap.size w w' := by
  intro n
  induction n with
  | zero => intro t ht; rw [tsize_mk] at ht; omega
  | succ n ih =>
    intro t ht u A A' c c' w0 w hC hc hC' hc' hB
    have hE : ∀ W : World, Below w0.heap.size w0 W → Calls Tryd.prog 58 #[.slice A t.f3.length c, .slice A' u.f3.length c', .func (.func 53) #[] #[]] W fun e w' => e = .returned (.bool (sameL t.f3 u.f3)) ∧ Below W.heap.size W w' := fun W hb =>
      eq_any t.f3 u.f3 A A' c c' w0 W hC hc hC' hc' hb (fun x hx y B B' d d' W' k1 k2 k3 k4 k5 => ih x (by rw [tsize_mk] at ht; have := lsize_mem hx; omega) y B B' d d' w0 W' k1 k2 k3 k4 k5)
    have HE := Lib.hid hE
    have HB := Lib.hid hB
    have HS := Lib.hid (sameT_mk t u)
    clear hE hC hC' hB ih
    go_enter Tryd.func53, Tryd.ntmps53
    go_wp2_with (go_at_call 58; refine (HE.out _ ?b1).mono ?_; (case b1 => exact (HB.out.alloc HB.out.size _).alloc (by have := HB.out.size; simp; omega) _); rintro e w5 ⟨rfl, hb5⟩; have HB5 := Lib.hid (below_two (Below.refl _ _) _ _ hb5); clear hb5)
    all_goals exact bodyPost_ret (v := .bool (sameT t u)) (by rw [HS.out]; simp [results, Tryd.results53, go_sem, *]) rfl ⟨rfl, by first | exact HB5.out | exact (by repeat (first | exact Below.refl _ _ | with_reducible assumption | refine Below.alloc ?_ (by first | exact Nat.le_refl _ | (simp; done) | (simp; omega) | omega) _ | refine Below.setCell ?_ (by first | exact Nat.le_refl _ | (simp; done) | (simp; omega) | omega) _ | refine Below.drew ?_ | refine bdrewN ?_ _))⟩

set_option maxHeartbeats 8000000 in
set_option maxRecDepth 100000 in
/-- term.Same. -/
theorem Same_any (t u : S24) (A A' : Option Addr) (c c' : Nat) (w : World) (hC : Kd.C k24 w A t.f3.length t.f3) (hc : t.f3.length ≤ c) (hC' : Kd.C k24 w A' u.f3.length u.f3) (hc' : u.f3.length ≤ c') :
    Calls Tryd.prog 42 #[.agg #[.int .i64 t.f0, .string t.f1, .int .i64 t.f2, .slice A t.f3.length c], .agg #[.int .i64 u.f0, .string u.f1, .int .i64 u.f2, .slice A' u.f3.length c']] w fun e w' => e = .returned (.bool (decide (deepT t 101 ≤ 100) && decide (deepT u 101 ≤ 100) && sameT t u)) ∧ Below w.heap.size w w' := by
  have HC := Lib.hid hC
  have HC' := Lib.hid hC'
  clear hC hC'
  go_enter Tryd.func42, Tryd.ntmps42
  have e0 : ∀ W : World, ((W.alloc (.cells #[.int .i64 t.f0, .string t.f1, .int .i64 t.f2, .slice A t.f3.length c] 24)).alloc (.cells #[.int .i64 u.f0, .string u.f1, .int .i64 u.f2, .slice A' u.f3.length c'] 24)).heap[W.heap.size]? = some (.cells #[.int .i64 t.f0, .string t.f1, .int .i64 t.f2, .slice A t.f3.length c] 24 (0, 0)) := fun W => blk_alloc (blk_new _ _) _
  have e1 : ∀ W : World, ((W.alloc (.cells #[.int .i64 t.f0, .string t.f1, .int .i64 t.f2, .slice A t.f3.length c] 24)).alloc (.cells #[.int .i64 u.f0, .string u.f1, .int .i64 u.f2, .slice A' u.f3.length c'] 24)).heap[W.heap.size + 1]? = some (.cells #[.int .i64 u.f0, .string u.f1, .int .i64 u.f2, .slice A' u.f3.length c'] 24 (0, 0)) := fun W => by
    have := blk_new (W.alloc (.cells #[.int .i64 t.f0, .string t.f1, .int .i64 t.f2, .slice A t.f3.length c] 24)) (.cells #[.int .i64 u.f0, .string u.f1, .int .i64 u.f2, .slice A' u.f3.length c'] 24)
    simpa using this
  have E0 := Lib.hid (e0 w)
  have E1 := Lib.hid (e1 w)
  have HD1 := Lib.hid (fun W k => Deep_any t A c W k hc)
  have HD2 := Lib.hid (fun W k => Deep_any u A' c' W k hc')
  have HSM := Lib.hid (fun W k1 k2 k3 => same_any (tsize t) t (Nat.le_refl _) u A A' c c' w W k1 hc k2 hc' k3)
  clear e0 e1
  go_wp2_with (first
    | (go_at_call 52; refine (HD1.out _ ?b1).mono ?_; (case b1 => exact Kd.C_alloc (Kd.C_alloc HC.out _) _); rintro e w1 ⟨rfl, hb1⟩; have K0 := Lib.hid (blk_below E0.out hb1); have K1 := Lib.hid (blk_below E1.out hb1); have HB1 := Lib.hid (below_two (Below.refl _ _) _ _ hb1); clear hb1; have p0 := (blk_cell K0.out 0).trans rfl; have p1 := (blk_cell K0.out 1).trans rfl; have p2 := (blk_cell K0.out 2).trans rfl; have p3 := (blk_cell K0.out 3).trans rfl; have q0 := (blk_cell K1.out 0).trans rfl; have q1 := (blk_cell K1.out 1).trans rfl; have q2 := (blk_cell K1.out 2).trans rfl; have q3 := (blk_cell K1.out 3).trans rfl)
    | (go_at_call 52; refine (HD2.out _ ?b1).mono ?_; (case b1 => exact Kd.C_below HC'.out HB1.out); rintro e w2 ⟨rfl, hb2⟩; have L0 := Lib.hid (blk_below K0.out hb2); have L1 := Lib.hid (blk_below K1.out hb2); have HB2 := Lib.hid (HB1.out.trans (hb2.mono HB1.out.size)); clear hb2; have r0 := (blk_cell L0.out 0).trans rfl; have r1 := (blk_cell L0.out 1).trans rfl; have r2 := (blk_cell L0.out 2).trans rfl; have r3 := (blk_cell L0.out 3).trans rfl; have s0 := (blk_cell L1.out 0).trans rfl; have s1 := (blk_cell L1.out 1).trans rfl; have s2 := (blk_cell L1.out 2).trans rfl; have s3 := (blk_cell L1.out 3).trans rfl)
    | (go_at_call 53; refine (HSM.out _ HC.out HC'.out HB2.out).mono ?_; rintro e w3 ⟨rfl, hb3⟩; have HB3 := Lib.hid (HB2.out.trans (hb3.mono HB2.out.size)); clear hb3))
  all_goals exact bodyPost_ret (v := .bool (decide (deepT t 101 ≤ 100) && decide (deepT u 101 ≤ 100) && sameT t u)) (by simp [results, Tryd.results42, go_sem, *]; try omega) rfl ⟨rfl, by first | exact HB3.out | exact HB2.out | exact HB1.out⟩
end Go.Proofs.YthckboogibhjaaaDoor.Trm
