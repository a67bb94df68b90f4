/- term.deep, term.Deep: how deep a term goes, at most so much. -/
import Derived.Test.YthckboogibhjaaaDoorTrmQ
namespace Go.Proofs.YthckboogibhjaaaDoor.Trm
set_option linter.unusedVariables false
set_option linter.unusedSimpArgs false
open Go.RowKit Go.Proofs.YthckboogibhjaaaDoorW.PrintWords Go.Proofs.YthckboogibhjaaaDoorW.PrintMore

mutual
/-- term.deep. -/
def deepT : S24 → Nat → Nat
  | ⟨_, _, _, l⟩, m => deepL l (m - 1) 0 + 1
def deepL : List S24 → Nat → Nat → Nat
  | [], _, n => n
  | x :: l, m, n => if n = m then n else deepL l m (max n (deepT x m))
end
theorem deepT_mk (t : S24) (m : Nat) : deepT t m = deepL t.f3 (m - 1) 0 + 1 := by cases t; rw [deepT]
mutual
theorem deepT_le : ∀ (t : S24) (m : Nat), 1 ≤ m → deepT t m ≤ m
  | ⟨_, _, _, l⟩, m, h => by
    rw [deepT]
    have := deepL_le l (m - 1) 0 (Nat.zero_le _)
    omega
theorem deepL_le : ∀ (l : List S24) (m n : Nat), n ≤ m → deepL l m n ≤ m
  | [], m, n, h => by rw [deepL]; exact h
  | x :: l, m, n, h => by
    rw [deepL]
    by_cases e : n = m
    · rw [if_pos e]; exact h
    · rw [if_neg e]
      have := deepT_le x m (by omega)
      exact deepL_le l m _ (by omega)
end
mutual
/-- It is the depth, cut off. -/
theorem deepT_min : ∀ (t : S24) (m : Nat), 1 ≤ m → deepT t m = min (tdeep t) m
  | ⟨_, _, _, l⟩, m, h => by
    rw [deepT, tdeep, deepL_min l (m - 1) 0 (Nat.zero_le _)]; omega
theorem deepL_min : ∀ (l : List S24) (m n : Nat), n ≤ m → deepL l m n = min (max n (ldeep l)) m
  | [], m, n, h => by rw [deepL, ldeep]; omega
  | x :: l, m, n, h => by
    rw [deepL, ldeep]
    by_cases e : n = m
    · rw [if_pos e]; omega
    · rw [if_neg e, deepT_min x m (by omega), deepL_min l m _ (by omega)]; omega
end

set_option maxHeartbeats 4000000 in
set_option maxRecDepth 100000 in
theorem deep_any : ∀ (n : Nat) (t : S24), tsize t ≤ n → ∀ (A : Option Addr) (c : Nat) (k : Nat) (w0 w : World),
    Kd.C k24 w0 A t.f3.length t.f3 → t.f3.length ≤ c → Below w0.heap.size w0 w → k ≤ 100 →
    Calls Tryd.prog 57 #[.agg #[.int .i64 t.f0, .string t.f1, .int .i64 t.f2, .slice A t.f3.length c], .int .i64 ((k : Int) + 1)] w fun e w' => e = .returned (.int .i64 (deepT t (k + 1))) ∧ Below w.heap.size w w' := by
  intro n
  induction n with
  | zero => intro t ht; rw [tsize_mk] at ht; omega
  | succ n ih =>
    intro t ht A c k w0 w hC hc hB hk
    have HC := Lib.hid hC
    have HB := Lib.hid hB
    have hD := deepT_mk t (k + 1)
    rw [Nat.add_sub_cancel] at hD
    have HD := Lib.hid hD
    have HIH := Lib.hid ih
    clear hC hB hD ih
    go_enter Tryd.func57, Tryd.ntmps57
    go_wp2
    go_loopw [5, 11] (fun v5 v11 wr => ∃ j nn : Nat, j ≤ t.f3.length ∧ v5 = .int .i64 nn ∧ v11 = .int .i64 j ∧ deepL (t.f3.drop j) k nn = deepL t.f3 k 0 ∧ nn ≤ k ∧ Below w.heap.size w wr) (fun _ v11 _ => t.f3.length - (intOf v11).toNat)
    case atStart => exact ⟨0, 0, Nat.zero_le _, rfl, rfl, by rw [List.drop_zero], Nat.zero_le _, (by repeat (first | exact Below.refl _ _ | with_reducible assumption | refine Below.alloc ?_ (by first | exact Nat.le_refl _ | (simp; done) | (simp; omega) | omega) _ | refine Below.setCell ?_ (by first | exact Nat.le_refl _ | (simp; done) | (simp; omega) | omega) _ | refine Below.drew ?_ | refine bdrewN ?_ _))⟩
    case round =>
      obtain ⟨j, nn, hj, rfl, rfl, hL, hn, hbr⟩ := hrel
      by_cases hjl : j < t.f3.length
      · have hmax := Kd.C_max HC.out
        obtain ⟨ad, A', c', e, x0, x1, x2, x3, l', C'⟩ := at_T24 HC.out (j : Int) (by omega) (by omega)
        have hbw : Below w0.heap.size w0 wr := HB.out.trans (hbr.mono HB.out.size)
        have hd : t.f3.drop j = rd_T24 t.f3 (j : Int) :: t.f3.drop (j + 1) := by
          rw [List.drop_eq_getElem_cons hjl]; simp [rd_T24, List.getElem?_eq_getElem hjl]
        have hmem : rd_T24 t.f3 (j : Int) ∈ t.f3 := by
          have : rd_T24 t.f3 (j : Int) = t.f3[j] := by simp [rd_T24, List.getElem?_eq_getElem hjl]
          rw [this]; exact List.getElem_mem hjl
        have hts := lsize_mem hmem
        rw [tsize_mk] at ht
        rw [hd, deepL] at hL
        generalize rd_T24 t.f3 (j : Int) = x at *
        replace x0 := (hbw.cell (World.block_lt_of_cell? w0 _ x0)).trans x0
        replace x1 := (hbw.cell (World.block_lt_of_cell? w0 _ x1)).trans x1
        replace x2 := (hbw.cell (World.block_lt_of_cell? w0 _ x2)).trans x2
        replace x3 := (hbw.cell (World.block_lt_of_cell? w0 _ x3)).trans x3
        rw [Int.toNat_natCast] at x0 x1 x2 x3
        subst e
        have hj9 : j + 1 < 9223372036854775808 := by omega
        have ew := wrapj hj9
        have hxn : tsize x ≤ n := by omega
        have EW := Lib.hid ew
        have HBR := Lib.hid hbr
        have HBW := Lib.hid hbw
        have HCx := Lib.hid C'
        have HMX := Lib.hid hmax
        clear hbr hbw C' hd hmax ew
        by_cases hnk : nn = k
        · subst hnk
          rw [if_pos rfl] at hL
          have HL := Lib.hid hL
          clear hL
          go_wp2
          refine bodyPost_ret (v := .int .i64 ((nn : Int) + 1)) (by simp [results, Tryd.results57, go_sem]) rfl ⟨?_, HBR.out.alloc HBR.out.size _⟩
          rw [HD.out, ← HL.out]; rfl
        · rw [if_neg hnk] at hL
          have HL := Lib.hid hL
          clear hL
          obtain ⟨k', rfl⟩ : ∃ k', k = k' + 1 := ⟨k - 1, by omega⟩
          have hne : ((nn : Int) = (k' : Int) + 1) = False := eq_false (by omega)
          have hdl := deepT_le x (k' + 1) (by omega)
          have IH : ∀ W : World, Below w0.heap.size w0 W → Calls Tryd.prog 57 #[.agg #[.int .i64 x.f0, .string x.f1, .int .i64 x.f2, .slice A' x.f3.length c'], .int .i64 ((k' : Int) + 1)] W fun e w' => e = .returned (.int .i64 (deepT x (k' + 1))) ∧ Below W.heap.size W w' := fun W hb => HIH.out x hxn A' c' k' w0 W HCx.out l' hb (by omega)
          have HI := Lib.hid IH
          clear IH HIH
          go_wp2_with (go_at_call 57; refine (HI.out _ ?b1).mono ?_; (case b1 => exact HBW.out.alloc HBW.out.size _); rintro e w5 ⟨rfl, hb5⟩)
          have HB5 := Lib.hid (HBR.out.trans (((Below.refl _ _).alloc (Nat.le_refl _) _ |>.trans (hb5.mono (by simp))).mono HBR.out.size))
          all_goals
            refine ⟨?_, ?_⟩
            · refine ⟨_, _, _, _, _, _, _, _, _, _, _, _, _, _, _, _, _, ?_, rfl⟩
              exact ⟨j + 1, max nn (deepT x (k' + 1)), hjl, by first | rfl | (congr 1; omega), by first | rfl | rw [EW.out], HL.out, by omega, HB5.out⟩
            · first
              | exact Nat.sub_lt_sub_left hjl (Nat.lt_succ_self _)
              | (simp only [EW.out, List.getD_toArray, List.getD_cons_succ, List.getD_cons_zero, intOf, Int.toNat_natCast]; exact Nat.sub_lt_sub_left hjl (Nat.lt_succ_self _))
      · have hjj : j = t.f3.length := by omega
        subst hjj
        rw [List.drop_length, deepL] at hL
        go_wp2
        refine bodyPost_ret (v := .int .i64 ((deepL t.f3 k 0 : Int) + 1)) (by simp [results, Tryd.results57, go_sem]) rfl ⟨?_, hbr⟩
        rw [HD.out]; rfl

theorem Deep_any (t : S24) (A : Option Addr) (c : Nat) (w : World) (hC : Kd.C k24 w A t.f3.length t.f3) (hc : t.f3.length ≤ c) :
    Calls Tryd.prog 52 #[.agg #[.int .i64 t.f0, .string t.f1, .int .i64 t.f2, .slice A t.f3.length c]] w fun e w' => e = .returned (.int .i64 (deepT t 101)) ∧ Below w.heap.size w w' := by
  have hD := deep_any (tsize t) t (Nat.le_refl _) A c 100 w
  have HD := Lib.hid hD
  have HC := Lib.hid hC
  clear hD hC
  go_enter Tryd.func52, Tryd.ntmps52
  go_wp2_with (go_at_call 57; refine (HD.out _ HC.out hc ?b1 (by decide)).mono ?_; (case b1 => exact (by repeat (first | exact Below.refl _ _ | with_reducible assumption | refine Below.alloc ?_ (by first | exact Nat.le_refl _ | (simp; done) | (simp; omega) | omega) _ | refine Below.setCell ?_ (by first | exact Nat.le_refl _ | (simp; done) | (simp; omega) | omega) _ | refine Below.drew ?_ | refine bdrewN ?_ _))); rintro e w1 ⟨rfl, hb1⟩)
  exact bodyPost_ret (v := .int .i64 (deepT t 101)) (by simp [results, Tryd.results52, go_sem]) rfl ⟨rfl, by first | exact hb1 | (refine Below.trans ?_ (hb1.mono (by first | exact Nat.le_refl _ | (simp; done) | (simp; omega) | omega)); exact (by repeat (first | exact Below.refl _ _ | with_reducible assumption | refine Below.alloc ?_ (by first | exact Nat.le_refl _ | (simp; done) | (simp; omega) | omega) _ | refine Below.setCell ?_ (by first | exact Nat.le_refl _ | (simp; done) | (simp; omega) | omega) _ | refine Below.drew ?_ | refine bdrewN ?_ _)))⟩
end Go.Proofs.YthckboogibhjaaaDoor.Trm
