/- cnf's search of an atom: the closure, slices.IndexFunc over it, (*maker).at. -/
import Derived.Test.YthckboogibhjaaaDoorTrmE
namespace Go.Proofs.YthckboogibhjaaaDoor.Trm
set_option linter.unusedVariables false
set_option linter.unusedSimpArgs false
open Go.RowKit Go.Proofs.YthckboogibhjaaaDoorW.PrintWords Go.Proofs.YthckboogibhjaaaDoorW.PrintMore

/-- term.Same. -/
def sameB (t u : S24) : Bool := decide (deepT t 101 ≤ 100) && decide (deepT u 101 ≤ 100) && sameT t u

/-- The first that is the same, from a number on; -1: none is. -/
def findT : List S24 → S24 → Nat → Int
  | [], _, _ => -1
  | x :: l, t, j => if sameB x t = true then (j : Int) else findT l t (j + 1)

set_option maxHeartbeats 8000000 in
set_option maxRecDepth 100000 in
theorem clo_any (x t : S24) (A A' : Option Addr) (c c' : Nat) (tb : Nat) (w0 w : World) (hC : Kd.C k24 w0 A x.f3.length x.f3) (hc : x.f3.length ≤ c) (hC' : Kd.C k24 w0 A' t.f3.length t.f3) (hc' : t.f3.length ≤ c') (hB : Below w0.heap.size w0 w)
    (hk : w.heap[tb]? = some (.cells #[.int .i64 t.f0, .string t.f1, .int .i64 t.f2, .slice A' t.f3.length c'] 24 (0, 0))) :
    Calls Tryd.prog 41 #[.agg #[.int .i64 x.f0, .string x.f1, .int .i64 x.f2, .slice A x.f3.length c], .pointer (some ⟨tb, 0, none⟩)] w fun e w' => e = .returned (.bool (sameB x t)) ∧ Below w.heap.size w w' := by
  have HS := Lib.hid (fun W k1 k2 => Same_any x t A A' c c' W k1 hc k2 hc')
  have HC := Lib.hid hC
  have HC' := Lib.hid hC'
  have HB := Lib.hid hB
  have zt := blk_lt hk
  have p0 := (blk_cell hk 0).trans rfl
  have p1 := (blk_cell hk 1).trans rfl
  have p2 := (blk_cell hk 2).trans rfl
  have p3 := (blk_cell hk 3).trans rfl
  clear hC hC' hB hk
  go_enter Tryd.func41, Tryd.ntmps41
  go_wp2_with (go_at_call 42; refine (HS.out _ ?b1 ?b2).mono ?_; (case b1 => exact Kd.C_below HC.out (HB.out.alloc HB.out.size _)); (case b2 => exact Kd.C_below HC'.out (HB.out.alloc HB.out.size _)); rintro e w1 ⟨rfl, hb1⟩)
  exact bodyPost_ret (v := .bool (sameB x t)) (by simp [results, Tryd.results41, go_sem, sameB]) rfl ⟨rfl, by refine Below.trans ?_ (hb1.mono (by first | exact Nat.le_refl _ | (simp; done) | (simp; omega) | omega)); exact (by repeat (first | exact Below.refl _ _ | with_reducible assumption | refine Below.alloc ?_ (by first | exact Nat.le_refl _ | (simp; done) | (simp; omega) | omega) _ | refine Below.setCell ?_ (by first | exact Nat.le_refl _ | (simp; done) | (simp; omega) | omega) _ | refine Below.drew ?_ | refine bdrewN ?_ _))⟩

set_option maxHeartbeats 8000000 in
set_option maxRecDepth 100000 in
theorem idx_any (l : List S24) (t : S24) (A A' : Option Addr) (c c' : Nat) (tb : Nat) (w0 w : World) (hC : Kd.C k24 w0 A l.length l) (hc : l.length ≤ c) (hC' : Kd.C k24 w0 A' t.f3.length t.f3) (hc' : t.f3.length ≤ c') (hB : Below w0.heap.size w0 w)
    (hk : w.heap[tb]? = some (.cells #[.int .i64 t.f0, .string t.f1, .int .i64 t.f2, .slice A' t.f3.length c'] 24 (0, 0))) :
    Calls Tryd.prog 40 #[.slice A l.length c, .func (.func 41) #[] #[.pointer (some ⟨tb, 0, none⟩)]] w fun e w' => e = .returned (.int .i64 (findT l t 0)) ∧ Below w.heap.size w w' := by
  have HC := Lib.hid hC
  have HB := Lib.hid hB
  have HK := Lib.hid hk
  have HX := Lib.hid (fun x B d W k1 k2 k3 k4 => clo_any x t B A' d c' tb w0 W k1 k2 hC' hc' k3 k4)
  clear hC hC' hB hk
  go_enter Tryd.func40, Tryd.ntmps40
  go_wp2
  go_loopw [8] (fun v wr => ∃ j : Nat, j ≤ l.length ∧ v = .int .i64 j ∧ findT l t 0 = findT (l.drop j) t j ∧ Below w.heap.size w wr) (fun v _ => l.length - (intOf v).toNat)
  case atStart => exact ⟨0, Nat.zero_le _, rfl, by rw [List.drop_zero], Below.refl _ _⟩
  case round =>
    obtain ⟨j, hj, rfl, hL, hbr⟩ := hrel
    by_cases hjl : j < l.length
    · have hmax := Kd.C_max HC.out
      obtain ⟨ad, B, d, e, x0, x1, x2, x3, l', C'⟩ := el_T HC.out hjl
      have hbw : Below w0.heap.size w0 wr := HB.out.trans (hbr.mono HB.out.size)
      rw [List.drop_eq_getElem_cons hjl, findT] at hL
      generalize l[j] = x at *
      replace x0 := (hbw.cell (World.block_lt_of_cell? w0 _ x0)).trans x0
      replace x1 := (hbw.cell (World.block_lt_of_cell? w0 _ x1)).trans x1
      replace x2 := (hbw.cell (World.block_lt_of_cell? w0 _ x2)).trans x2
      replace x3 := (hbw.cell (World.block_lt_of_cell? w0 _ x3)).trans x3
      subst e
      have hj9 : j + 1 < 9223372036854775808 := by omega
      have EW := Lib.hid (wrapj hj9)
      have HL := Lib.hid hL
      have HBR := Lib.hid hbr
      have HBW := Lib.hid hbw
      have HCx := Lib.hid C'
      clear hL hbr hbw C' hmax
      cases hxy : sameB x t with
      | true =>
        have hl2 := HL.out
        rw [hxy, if_pos rfl] at hl2
        have HL2 := Lib.hid hl2
        clear hl2 HL
        go_wp2_with (go_at_call 41; refine (HX.out x B d _ HCx.out l' HBW.out (blk_below HK.out HBR.out)).mono ?_; rw [hxy]; rintro e w5 ⟨rfl, hb5⟩; have HB5 := Lib.hid (HBR.out.trans (hb5.mono HBR.out.size)); clear hb5)
        exact bodyPost_ret (v := .int .i64 (j : Int)) (by simp [results, Tryd.results40, go_sem]) rfl ⟨by rw [HL2.out], HB5.out⟩
      | false =>
        have hl2 := HL.out
        rw [hxy, if_neg (by decide)] at hl2
        have HL2 := Lib.hid hl2
        clear hl2 HL
        go_wp2_with (go_at_call 41; refine (HX.out x B d _ HCx.out l' HBW.out (blk_below HK.out HBR.out)).mono ?_; rw [hxy]; rintro e w5 ⟨rfl, hb5⟩; have HB5 := Lib.hid (HBR.out.trans (hb5.mono HBR.out.size)); clear hb5)
        refine ⟨⟨j + 1, hjl, by first | rfl | rw [EW.out], HL2.out, HB5.out⟩, ?_⟩
        first
        | exact Nat.sub_lt_sub_left hjl (Nat.lt_succ_self _)
        | (simp only [EW.out, intOf, Int.toNat_natCast]; exact Nat.sub_lt_sub_left hjl (Nat.lt_succ_self _))
    · have hjj : j = l.length := by omega
      subst hjj
      rw [List.drop_length, findT] at hL
      go_wp2
      exact bodyPost_ret (v := .int .i64 (-1)) (by simp [results, Tryd.results40, go_sem]) rfl ⟨by rw [hL], hbr⟩

set_option maxHeartbeats 8000000 in
set_option maxRecDepth 100000 in
theorem at_any (l : List S24) (t : S24) (A A' : Option Addr) (c c' : Nat) (mb : Nat) (v2 v3 : Value) (w : World) (hC : Kd.C k24 w A l.length l) (hc : l.length ≤ c) (hC' : Kd.C k24 w A' t.f3.length t.f3) (hc' : t.f3.length ≤ c')
    (hm : w.cell? ⟨mb, 0, none⟩ = some (.slice A l.length c)) :
    Calls Tryd.prog 26 #[.pointer (some ⟨mb, 0, none⟩), .agg #[.int .i64 t.f0, .string t.f1, .int .i64 t.f2, .slice A' t.f3.length c']] w fun e w' => e = .returned (.int .i64 (findT l t 0)) ∧ Below w.heap.size w w' := by
  have zm : mb < w.heap.size := World.block_lt_of_cell? w _ hm
  have HC := Lib.hid hC
  have HC' := Lib.hid hC'
  have e0 := blk_new w (.cells #[.int .i64 t.f0, .string t.f1, .int .i64 t.f2, .slice A' t.f3.length c'] 24)
  have E0 := Lib.hid e0
  have HI := Lib.hid (fun tb W k1 k2 => idx_any l t A A' c c' tb w W hC hc hC' hc' k1 k2)
  clear hC hC' e0
  go_enter Tryd.func26, Tryd.ntmps26
  go_wp2_with (go_at_call 40; refine (HI.out _ _ ?b1 ?b2).mono ?_; (case b1 => exact (Below.refl _ _).alloc (Nat.le_refl _) _); (case b2 => exact E0.out); rintro e w1 ⟨rfl, hb1⟩)
  exact bodyPost_ret (v := .int .i64 (findT l t 0)) (by simp [results, Tryd.results26, go_sem]) rfl ⟨rfl, by refine Below.trans ?_ (hb1.mono (by first | exact Nat.le_refl _ | (simp; done) | (simp; omega) | omega)); exact (by repeat (first | exact Below.refl _ _ | with_reducible assumption | refine Below.alloc ?_ (by first | exact Nat.le_refl _ | (simp; done) | (simp; omega) | omega) _ | refine Below.setCell ?_ (by first | exact Nat.le_refl _ | (simp; done) | (simp; omega) | omega) _ | refine Below.drew ?_ | refine bdrewN ?_ _))⟩
end Go.Proofs.YthckboogibhjaaaDoor.Trm
