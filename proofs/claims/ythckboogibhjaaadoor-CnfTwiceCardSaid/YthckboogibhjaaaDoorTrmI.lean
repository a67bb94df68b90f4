/- cnf's maker: pairs. -/
import Derived.Test.YthckboogibhjaaaDoorTrmH
import Derived.Test.YthckboogibhjaaaDoorTrmS
namespace Go.Proofs.YthckboogibhjaaaDoor.Trm
set_option linter.unusedVariables false
set_option linter.unusedSimpArgs false
open Go.RowKit Go.Proofs.YthckboogibhjaaaDoorW.PrintWords Go.Proofs.YthckboogibhjaaaDoorW.PrintMore

/-- A short row of numbers just made, as an element. -/
theorem fk_new {W : World} {g : Nat} {xs : List Int} (hn : 0 < xs.length) (hm : xs.length ≤ 2) (h : W.heap[g]? = some (.cells (xs.map (Value.int .i64)).toArray 3 (0, 0))) {okp : Nat → Prop} (hok : okp g) :
    Kd.FK (Kd.slice 3 (Kd.int .i64)) W okp xs [.slice (some ⟨g, 0, none⟩) xs.length xs.length] :=
  Kd.FK_slice_mk (Nat.le_refl _) (fun W' hW => row_ints hn hm ((hW g hok (blk_lt h)).trans h))

set_option maxHeartbeats 8000000 in
set_option maxRecDepth 100000 in
theorem pairs_any (mb : Nat) (va vc : Value) (vars h : Int) (cls : List (List Int)) (l : List Int) (Al : Option Addr) (cl : Nat) (base : Nat) (ok okl : Nat → Prop) (w0 w : World)
    (hm : w.heap[mb]? = some (.cells #[va, .int .i64 vars, vc] 47 (0, 0)))
    (hN : Kd.N (Kd.slice 3 (Kd.int .i64)) 32 w base ok vc cls) (hmb : ¬ ok mb) (hF : Kd.F (Kd.int .i64) w okl Al l.length l) (hcl : l.length ≤ cl) (hokl : ∀ k, okl k → k ≠ mb ∧ some k ≠ vc.ownBlock) (hfresh : ∀ k, w.heap.size ≤ k → ok k)
    (hB : Below base w0 w) (hbase : base ≤ w.heap.size) (hbm : base ≤ mb) (hlen : cls.length + l.length ≤ 1000000) :
    Calls Tryd.prog 43 #[.pointer (some ⟨mb, 0, none⟩), .int .i64 h, .slice Al l.length cl] w fun e w' => e = .returned (.tuple #[]) ∧ ∃ v1, w'.heap[mb]? = some (.cells #[va, .int .i64 vars, v1] 47 (0, 0)) ∧ Kd.N (Kd.slice 3 (Kd.int .i64)) 32 w' base ok v1 (cls ++ l.map fun n => [h, n]) ∧ Below base w0 w' ∧ (v1.ownBlock = vc.ownBlock ∨ ∃ b, v1.ownBlock = some b ∧ w.heap.size ≤ b) ∧ (∀ k, k < w.heap.size → k ≠ mb → some k ≠ vc.ownBlock → w'.heap[k]? = w.heap[k]?) ∧ w.heap.size ≤ w'.heap.size := by
  have HF := Lib.hid hF
  have HL := Lib.hid hokl
  have HFR := Lib.hid hfresh
  have HMB := Lib.hid hmb
  have hN0 := hN
  have HN0 := Lib.hid hN0
  have HM0 := Lib.hid hm
  have HB0 := Lib.hid hB
  clear hF hokl hfresh hmb hN hN0 hm hB
  go_enter Tryd.func43, Tryd.ntmps43
  go_wp2
  go_loopw [10] (fun v wr => ∃ (j : Nat) (vd : Value), j ≤ l.length ∧ v = .int .i64 j ∧ wr.heap[mb]? = some (.cells #[va, .int .i64 vars, vd] 47 (0, 0)) ∧ Kd.N (Kd.slice 3 (Kd.int .i64)) 32 wr base ok vd (cls ++ (l.take j).map fun n => [h, n]) ∧ Below base w0 wr ∧ (vd.ownBlock = vc.ownBlock ∨ ∃ b, vd.ownBlock = some b ∧ w.heap.size ≤ b) ∧ (∀ k, k < w.heap.size → k ≠ mb → some k ≠ vc.ownBlock → wr.heap[k]? = w.heap[k]?) ∧ w.heap.size ≤ wr.heap.size) (fun v _ => l.length - (intOf v).toNat)
  case atStart => exact ⟨0, vc, Nat.zero_le _, rfl, HM0.out, by simpa using HN0.out, HB0.out, .inl rfl, fun _ _ _ _ => rfl, Nat.le_refl _⟩
  case round =>
    obtain ⟨j, vd, hj, rfl, hm, hN, hB, hv, hk, hsz⟩ := hrel
    by_cases hjl : j < l.length
    · have hC : Kd.C (Kd.int .i64) wr Al l.length l := Kd.F_now (Kd.F_step HF.out (fun k hk1 hk2 => hk k hk2 (HL.out k hk1).1 (HL.out k hk1).2))
      have hmax := Kd.C_max hC
      obtain ⟨ad, eA, x0⟩ := Kd.at_int hC (j : Int) (by omega) (by omega)
      have erd : rd l (j : Int) = l[j] := by simp [rd, List.getElem?_eq_getElem hjl]
      rw [erd, Int.toNat_natCast] at x0
      have htk : cls ++ (l.take (j + 1)).map (fun n => [h, n]) = (cls ++ (l.take j).map fun n => [h, n]) ++ [[h, l[j]]] := by
        rw [List.take_add_one, List.getElem?_eq_getElem hjl, List.map_append, ← List.append_assoc]; rfl
      have hll : (cls ++ (l.take j).map fun n => [h, n]).length ≤ 1000000 := by simp; omega
      generalize hcj : (cls ++ (l.take j).map fun n => [h, n]) = cj at *
      generalize l[j] = x at *
      have en := blk_new wr (.cells #[.int .i64 h, .int .i64 x] 3)
      have hown : ∀ k, vd.ownBlock = some k → k < wr.heap.size := fun k hk1 => by
        obtain ⟨-, rows, -, hR, -⟩ := hN
        obtain ⟨inner, ho⟩ := Kd.R_own hR
        obtain ⟨cells, hcells⟩ := own_typed ho k hk1
        exact blk_lt hcells
      have hadd := add_any mb va vd vars cj [h, x] (some ⟨wr.heap.size, 0, none⟩) 2 base ok (fun k => k = wr.heap.size) w0 (wr.alloc (.cells #[.int .i64 h, .int .i64 x] 3)) (blk_alloc hm _) (Kd.N_alloc hN _) HMB.out (fk_new (xs := [h, x]) (by simp) (by simp) en rfl)
        (fun k hk1 => by subst hk1; exact ⟨HFR.out _ hsz, fun he => by have := hown _ he.symm; omega⟩) (fun k hk1 => HFR.out k (by simp at hk1; omega)) (hB.alloc (by omega) _) (by simp; omega) hbm hll
      have HADD := Lib.hid hadd
      have EW := Lib.hid (wrapj (show j + 1 < 9223372036854775808 by omega))
      subst eA
      have HV := Lib.hid hv
      have HK := Lib.hid hk
      have HT := Lib.hid htk
      clear hm hN hB hv hk hC hmax erd htk hcj en hown hadd hll
      go_wp2_with (go_at_call 27; refine HADD.out.mono ?_; rintro e w5 ⟨rfl, v1, q1, q2, q3, q4, q5, q6⟩; have Q1 := Lib.hid q1; have Q2 := Lib.hid q2; have Q3 := Lib.hid q3; have Q4 := Lib.hid q4; have Q5 := Lib.hid q5; have Q6 := Lib.hid q6; clear q1 q2 q3 q4 q5 q6)
      have r4 : v1.ownBlock = vc.ownBlock ∨ ∃ b, v1.ownBlock = some b ∧ w.heap.size ≤ b := by
        rcases Q4.out with h1 | ⟨b, hb1, hb2⟩
        · rw [h1]; exact HV.out
        · exact .inr ⟨b, hb1, by simp at hb2; omega⟩
      have r5 : ∀ k, k < w.heap.size → k ≠ mb → some k ≠ vc.ownBlock → w5.heap[k]? = w.heap[k]? := by
        intro k h1 h2 h3
        have hne : some k ≠ vd.ownBlock := by
          rcases HV.out with h4 | ⟨b, hb1, hb2⟩
          · rw [h4]; exact h3
          · rw [hb1]; intro he; injection he with he; omega
        exact (Q5.out k (by simp; omega) h2 hne).trans ((Below.heap_alloc _ _ _ (by omega)).trans (HK.out k h1 h2 h3))
      have r6 : w.heap.size ≤ w5.heap.size := by have := Q6.out; simp at this; omega
      refine ⟨⟨j + 1, v1, hjl, by first | rfl | rw [EW.out], Q1.out, by rw [HT.out]; exact Q2.out, Q3.out, r4, r5, r6⟩, ?_⟩
      first
      | exact Nat.sub_lt_sub_left hjl (Nat.lt_succ_self _)
      | (simp only [EW.out, intOf, Int.toNat_natCast]; exact Nat.sub_lt_sub_left hjl (Nat.lt_succ_self _))
    · have hjj : j = l.length := by omega
      subst hjj
      rw [List.take_length] at hN
      go_wp2
      exact bodyPost_end (v := .tuple #[]) (by simp [results, Tryd.results43, go_sem]) rfl ⟨rfl, vd, hm, hN, hB, hv, hk, hsz⟩
end Go.Proofs.YthckboogibhjaaaDoor.Trm
