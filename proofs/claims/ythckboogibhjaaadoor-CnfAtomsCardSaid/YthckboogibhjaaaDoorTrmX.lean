/- cnf.Clauses. -/
import Derived.Test.YthckboogibhjaaaDoorTrmW
import Derived.Test.YthckboogibhjaaaDoorTrmA
import Derived.Deep.RegionHeldLaw
namespace Go.Proofs.YthckboogibhjaaaDoor.Trm
set_option linter.unusedVariables false
set_option linter.unusedSimpArgs false
open Go.RowKit Go.Proofs.YthckboogibhjaaaDoorW.PrintWords Go.Proofs.YthckboogibhjaaaDoorW.PrintMore

/-- A term's atoms. -/
def atomsT (t : S24) : List S24 := eachT atomF t []
/-- cnf.Clauses. -/
def clausesT (t : S24) : List (List Int) × List S24 × Int × Int :=
  if (sortT t).2 = 0 then
    if (sortT t).1 = 4 then ((litT (atomsT t) t (atomsT t).length []).2.2 ++ [[(litT (atomsT t) t (atomsT t).length []).1]], atomsT t, (litT (atomsT t) t (atomsT t).length []).2.1, 0)
    else ([], [], 0, 3)
  else ([], [], 0, (sortT t).2)

mutual
theorem rightT_ok : ∀ (t : S24) (want : Int), rightT t want = true → okT t
  | ⟨op, nm, n, l⟩, want, h => by
    rw [rightT] at h
    rw [okT]
    intro hj
    have hop : 16 ≤ op ∧ op ≤ 21 := by unfold joinsB at hj; simp at hj; exact hj
    rw [if_neg (by omega), Bool.and_eq_true] at h
    refine ⟨fun h2 he => ?_, rightL_ok l _ 0 h.2⟩
    subst he
    rcases h2 with rfl | rfl
    · have := ok_len h.1 rfl
      exact absurd this (by decide)
    · have := ok_len h.1 rfl
      exact absurd this (by decide)
theorem rightL_ok : ∀ (l : List S24) (s : Shp) (i : Nat), rightL l s i = true → okL l
  | [], _, _, _ => by rw [okL]; trivial
  | x :: l, s, i, h => by
    rw [rightL, Bool.and_eq_true] at h
    rw [okL]
    exact ⟨rightT_ok x _ h.1, rightL_ok l s (i + 1) h.2⟩
end
theorem sort_small {t : S24} (h : (sortT t).2 = 0) : tsize t ≤ 2000 ∧ tdeep t ≤ 100 ∧ rightT t 0 = true := by
  unfold sortT at h
  cases hb : bigT t with
  | true => rw [hb, if_pos rfl] at h; exact absurd h (by decide)
  | false =>
    rw [hb, if_neg (by decide)] at h
    have h2 := bigT_is t
    rw [hb] at h2
    have h3 := Bool.or_eq_false_iff.1 h2.symm
    have h4 := of_decide_eq_false h3.1
    have h5 := of_decide_eq_false h3.2
    refine ⟨by omega, by omega, ?_⟩
    by_cases hr : rightT t 0 = true
    · exact hr
    · rw [if_neg hr] at h; exact absurd h (by decide)
theorem atomsT_len (t : S24) : (atomsT t).length ≤ tsize t := by
  have := eachT_len atomF atomF_len t []
  simpa [atomsT] using this

theorem blk_new1 (w : World) (o o' : Obj) : ((w.alloc o).alloc o').heap[w.heap.size + 1]? = some o' := by
  have h := blk_new (w.alloc o) o'
  have e : (w.alloc o).heap.size = w.heap.size + 1 := by simp
  rw [e] at h; exact h

set_option maxHeartbeats 16000000 in
set_option maxRecDepth 100000 in
theorem Clauses_any (t : S24) (P : Nat → Prop) (A : Option Addr) (c : Nat) (w : World) (hC : Kd.F k24 w P A t.f3.length t.f3) (hc : t.f3.length ≤ c) :
    Calls Tryd.prog 10 #[.agg #[.int .i64 t.f0, .string t.f1, .int .i64 t.f2, .slice A t.f3.length c]] w fun e w' => ∃ v0 v1 : Value, e = .returned (.tuple #[v0, v1, .int .i64 (clausesT t).2.2.1, .int .i64 (clausesT t).2.2.2]) ∧
      Kd.N (Kd.slice 3 (Kd.int .i64)) 32 w' w.heap.size (fun k => P k ∨ w.heap.size ≤ k) v0 (clausesT t).1 ∧ Kd.V k24 24 w' w.heap.size (fun k => (P k ∨ w.heap.size ≤ k) ∧ some k ≠ v0.ownBlock) v1 (clausesT t).2.1 ∧ Below w.heap.size w w' := by
  let O : Obj := .cells #[.int .i64 t.f0, .string t.f1, .int .i64 t.f2, .slice A t.f3.length c] 24
  have HC := Lib.hid hC
  have B1 := below_alloc (Below.refl w.heap.size w) O
  have HS := Lib.hid (Sort_any t A c (w.alloc O) (Kd.C_below (Kd.F_now hC) B1) hc)
  have kt := blk_new w O
  by_cases h0 : (sortT t).2 = 0
  · by_cases h4 : (sortT t).1 = 4
    · obtain ⟨hsmall, hdeep, hright⟩ := sort_small h0
      have hEACH : ∀ (m : Nat) (W : World), w.heap.size ≤ m → St m (m + 1) w P [] (.slice none 0 0) W → Calls Tryd.prog 23 #[.agg #[.int .i64 t.f0, .string t.f1, .int .i64 t.f2, .slice A t.f3.length c], .func (.func 24) #[] #[.pointer (some ⟨m + 1, 0, none⟩)]] W fun e w' => e = .returned (.tuple #[]) ∧ ∃ v1, St m (m + 1) w P (atomsT t) v1 w' ∧ Turn m (.slice none 0 0) v1 W w' := fun m W hm hS =>
        each_any (St m (m + 1) w P) atomF m (m + 1) w P (fun _ _ _ h => h.2.2.2) (fun _ _ _ o h => St_alloc h o) (fun _ _ _ k h he => Kd.N_lt h.2.2.1 k he) (fun _ _ _ h => blk_lt h.2.1) atomF_len
          (fun x B d s va W hS2 hl hF hd => cc_any m (m + 1) (by omega) w P hm (by omega) x B d s va W hS2 hl hF hd) (tsize t) t (Nat.le_refl _) A c [] (.slice none 0 0) W hS (by simp; omega) hC hc
      have EACH := Lib.hid hEACH
      have KT := Lib.hid kt
      clear hEACH kt hC
      go_enter Tryd.func10, Tryd.ntmps10
      go_wp2_with (first | (go_at_call 22; refine HS.out.mono ?_; rw [h0, h4]; rintro e w1 ⟨rfl, hb1⟩; have k1 := blk_below KT.out hb1; have p0 : w1.cell? ⟨w.heap.size, 0, none⟩ = some (.int .i64 t.f0) := (blk_cell k1 0).trans rfl; have p1 : w1.cell? ⟨w.heap.size, 1, none⟩ = some (.string t.f1) := (blk_cell k1 1).trans rfl; have p2 : w1.cell? ⟨w.heap.size, 2, none⟩ = some (.int .i64 t.f2) := (blk_cell k1 2).trans rfl; have p3 : w1.cell? ⟨w.heap.size, 3, none⟩ = some (.slice A t.f3.length c) := (blk_cell k1 3).trans rfl; have z1 : w.heap.size < w1.heap.size := blk_lt k1; have K1 := Lib.hid k1; have HB1 := Lib.hid ((below_alloc (Below.refl w.heap.size w) O).trans (hb1.mono (by simp))); clear hb1 k1) | (go_at_call 23; refine (EACH.out w1.heap.size _ (Nat.le_of_lt z1) ⟨blk_new1 _ _ _, blk_alloc (blk_new _ _) _, Kd.N_nil _ _ _ _ _, (HB1.out.alloc (Nat.le_of_lt z1) _).alloc (by simp; omega) _⟩).mono ?_; rintro e w2 ⟨rfl, va, q1, q2⟩; have Q1 := Lib.hid q1; have K2 := Lib.hid ((q2.2.1 w.heap.size (by simp; omega) (Nat.ne_of_lt z1) (by simp [Value.ownBlock])).trans (blk_alloc (blk_alloc K1.out _) _)); have z2 : w1.heap.size + 1 < w2.heap.size := (by have := q2.2.2; simp at this; omega); clear q1 q2 p0 p1 p2 p3))
      obtain ⟨kx, km, hN, hB⟩ := Q1.out
      obtain ⟨Aa, ca, rfl⟩ := Kd.N_slice hN
      have hm : w.heap.size < w1.heap.size := z1
      clear EACH KT K1 HB1 Q1
      generalize w1.heap.size = m at *
      have hca := (Kd.N_reads' hN).2.1
      have px : w2.drew.cell? ⟨m + 1, 0, none⟩ = some (.pointer (some ⟨m, 0, none⟩)) := (blk_cell kx 0).trans rfl
      have pm : w2.drew.cell? ⟨m, 0, none⟩ = some (.slice Aa (atomsT t).length ca) := (blk_cell km 0).trans rfl
      have pn : w2.cell? ⟨m, 1, none⟩ = some (.int .i64 0) := (blk_cell km 1).trans rfl
      have fn : w2.frozen? ⟨m, 1, none⟩ = false := blk_frozen km 1
      have KX := Lib.hid kx
      have KM := Lib.hid km
      have HN := Lib.hid hN
      have HB := Lib.hid hB
      clear kx km hN hB
      go_region_held_law (fun w' => w'.cell? ⟨m + 1, 0, none⟩ = some (.pointer (some ⟨m, 0, none⟩)) ∧ w'.cell? ⟨m, 0, none⟩ = some (.slice Aa (atomsT t).length ca))
        (first | exact ⟨px, pm⟩ | exact ⟨(blk_cell (blk_far (w := w2.drew) KX.out (show m + 1 ≠ m by omega) _) 0).trans rfl, (blk_cell (blk_put (w := w2.drew) KM.out 1 _ rfl) 0).trans rfl⟩) (fail)
      have L3 : Ls m w (w2.setCell ⟨m, 1, none⟩ (.int .i64 ((atomsT t).length : Int))).drew (fun k => k ≠ m ∧ k < w2.heap.size) (.slice Aa (atomsT t).length ca) ((atomsT t).length : Int) [] (.slice none 0 0) (w2.setCell ⟨m, 1, none⟩ (.int .i64 ((atomsT t).length : Int))).drew :=
        ⟨blk_put KM.out 1 _ rfl, Kd.N_nil _ _ _ _ _, (HB.out.setCell (Nat.le_of_lt hm) _).drew, Nat.le_refl _, fun _ _ _ => rfl⟩
      have X3 : (w2.setCell ⟨m, 1, none⟩ (.int .i64 ((atomsT t).length : Int))).drew.heap[m + 1]? = some (.cells #[.pointer (some ⟨m, 0, none⟩)] 45 (0, 0)) := blk_far (w := w2) KX.out (show m + 1 ≠ m by omega) _
      have T3 : (w2.setCell ⟨m, 1, none⟩ (.int .i64 ((atomsT t).length : Int))).drew.heap[w.heap.size]? = some (.cells #[.int .i64 t.f0, .string t.f1, .int .i64 t.f2, .slice A t.f3.length c] 24 (0, 0)) := blk_far (w := w2) K2 (show w.heap.size ≠ m by omega) _
      have F3 : Kd.F k24 (w2.setCell ⟨m, 1, none⟩ (.int .i64 ((atomsT t).length : Int))).drew (fun k => ((P k ∨ w.heap.size ≤ k) ∧ k ≠ m ∧ k ≠ m + 1) ∧ k < w2.heap.size) Aa (atomsT t).length (atomsT t) := Kd.F_drew (Kd.F_far (Kd.F_bound (Kd.N_F HN.out)) (fun k hk => hk.1.2.1) _)
      have z3 : (w2.setCell ⟨m, 1, none⟩ (.int .i64 ((atomsT t).length : Int))).drew.heap.size = w2.heap.size := by simp [World.setCell, World.drew]
      have LL := Lib.hid L3
      have XX := Lib.hid X3
      have TT := Lib.hid T3
      have FF := Lib.hid F3
      have ZZ := Lib.hid z3
      clear L3 X3 T3 F3 z3 px pm pn fn KX KM HN HB K2
      go_wp2
      refine wp_world (fun wx => wx = (w2.setCell ⟨m, 1, none⟩ (.int .i64 ((atomsT t).length : Int))).drew) rfl (fun w3 hw3 => ?_)
      rw [← hw3] at LL XX TT FF ZZ
      clear hw3
      have hle := litT_le (atomsT t) t ((atomsT t).length : Int) [] (Int.le_refl _)
      have hal := atomsT_len t
      have hLIT := lit_any m w (Nat.le_of_lt hm) (atomsT t) (by omega) Aa ca hca (tsize t) t (Nat.le_refl _) (rightT_ok t 0 hright) w3 (fun k => k ≠ m ∧ k < w2.heap.size) (fun k hk => ⟨by have := ZZ.out; omega, hk.1⟩) (Kd.F_mono FF.out (fun k hk => ⟨hk.1.2.1, hk.2⟩)) A c ((atomsT t).length : Int) [] (.slice none 0 0) w3.drew (Ls_below LL.out (Below.refl _ _).drew (fun k hk => by have := ZZ.out; omega)) (Kd.F_now HC.out) hc (Int.le_refl _) (by omega) (by simp; omega)
      have hcl : clausesT t = ((litT (atomsT t) t (atomsT t).length []).2.2 ++ [[(litT (atomsT t) t (atomsT t).length []).1]], atomsT t, (litT (atomsT t) t (atomsT t).length []).2.1, 0) := by unfold clausesT; rw [if_pos h0, if_pos h4]
      have HCL := Lib.hid hcl
      have hlen : (litT (atomsT t) t (atomsT t).length []).2.2.length ≤ 1000000 := by have := hle.2.2.2.2; simp at this; omega
      generalize (litT (atomsT t) t (atomsT t).length []).1 = lit at *
      generalize (litT (atomsT t) t (atomsT t).length []).2.1 = vars at *
      generalize (litT (atomsT t) t (atomsT t).length []).2.2 = cls at *
      have LIT := Lib.hid hLIT
      clear hLIT hcl hle hal
      have zw : w.heap.size < w3.heap.size := blk_lt TT.out
      go_region_held_law (fun w' => w'.cell? ⟨m + 1, 0, none⟩ = some (.pointer (some ⟨m, 0, none⟩)) ∧ w'.cell? ⟨w.heap.size, 0, none⟩ = some (.int .i64 t.f0) ∧ w'.cell? ⟨w.heap.size, 1, none⟩ = some (.string t.f1) ∧ w'.cell? ⟨w.heap.size, 2, none⟩ = some (.int .i64 t.f2) ∧ w'.cell? ⟨w.heap.size, 3, none⟩ = some (.slice A t.f3.length c))
        (first | exact sb_cells (W := w3.drew) XX.out TT.out | exact sb_cells X4.out T4.out | exact sb_cells (blk_alloc X4.out _) (blk_alloc T4.out _) | exact sb_cells X5.out T5.out)
        (first | (go_at_call 28; refine LIT.out.mono ?_; rintro e w4 ⟨rfl, v4, q1, q2⟩; have X4 := Lib.hid (blk_turn (W := w3.drew) XX.out (show m + 1 ≠ m by omega) (by decide) (Ls_below LL.out (Below.refl _ _).drew (fun k hk => by have := ZZ.out; omega)) q2); have T4 := Lib.hid (blk_turn (W := w3.drew) TT.out (show w.heap.size ≠ m by omega) (by decide) (Ls_below LL.out (Below.refl _ _).drew (fun k hk => by have := ZZ.out; omega)) q2); have L4 := Lib.hid q1; clear q1 q2) | (go_at_call 27; refine (add1_ls m w w3 (fun k => k ≠ m ∧ k < w2.heap.size) (fun k hk => ⟨by have := ZZ.out; omega, hk.1⟩) (Nat.le_of_lt hm) (.slice Aa (atomsT t).length ca) v4 vars cls lit w4.heap.size w4 rfl L4.out hlen).mono ?_; rintro e w5 ⟨rfl, v5, q1, q2⟩; have X5 := Lib.hid (blk_turn X4.out (show m + 1 ≠ m by omega) (by decide) L4.out q2); have T5 := Lib.hid (blk_turn T4.out (show w.heap.size ≠ m by omega) (by decide) L4.out q2); have L5 := Lib.hid q1; clear q1 q2))
      go_wp2
      have y0 : w5.drew.cell? ⟨m + 1, 0, none⟩ = some (.pointer (some ⟨m, 0, none⟩)) := (blk_cell X5.out 0).trans rfl
      have y1 : w5.drew.cell? ⟨m, 0, none⟩ = some (.slice Aa (atomsT t).length ca) := (blk_cell L5.out.1 0).trans rfl
      have y2 : w5.drew.cell? ⟨m, 1, none⟩ = some (.int .i64 vars) := (blk_cell L5.out.1 1).trans rfl
      have y3 : w5.drew.cell? ⟨m, 2, none⟩ = some v5 := (blk_cell L5.out.1 2).trans rfl
      have hv5 := Kd.N_slice L5.out.2.1
      go_region_held_law (fun w' => w'.cell? ⟨m + 1, 0, none⟩ = some (.pointer (some ⟨m, 0, none⟩)) ∧ w'.cell? ⟨m, 0, none⟩ = some (.slice Aa (atomsT t).length ca) ∧ w'.cell? ⟨m, 1, none⟩ = some (.int .i64 vars) ∧ w'.cell? ⟨m, 2, none⟩ = some v5) (exact ⟨y0, y1, y2, y3⟩) (fail)
      go_wp2
      have hcl := HCL.out
      have h5 := Ls_below L5.out (Below.refl w5.heap.size w5).drew (fun k hk => by have := ZZ.out; omega)
      have hok5 : ∀ k, (k ≠ m ∧ ¬ (k ≠ m ∧ k < w2.heap.size)) → w2.heap.size ≤ k := fun k hk => by
        rcases Nat.lt_or_ge k w2.heap.size with hl | hl
        · exact absurd ⟨hk.1, hl⟩ hk.2
        · exact hl
      refine bodyPost_ret (v := .tuple #[v5, .slice Aa (atomsT t).length ca, .int .i64 vars, .int .i64 0]) (by simp [results, Tryd.results10, go_sem]) rfl ⟨v5, .slice Aa (atomsT t).length ca, by rw [hcl], ?_, ?_, h5.2.2.1⟩
      · rw [hcl]
        exact Kd.N_mono h5.2.1 (fun k hk => .inr (by have := hok5 k hk; omega))
      · rw [hcl]
        refine Kd.V_mk hca (Kd.F_mono (Kd.F_step FF.out (fun k hk _ => h5.2.2.2.2 k ⟨hk.1.2.1, hk.2⟩ (by have := ZZ.out; omega))) (fun k hk => ⟨hk.1.1, fun he => ?_⟩))
        have := hok5 k (h5.2.1.1 k he.symm)
        have := hk.2
        omega
    · have h4e : ((sortT t).1 = 4) = False := eq_false h4
      have hc2 : clausesT t = ([], [], 0, 3) := by unfold clausesT; rw [if_pos h0, if_neg h4]
      have HC2 := Lib.hid hc2
      clear hc2 hC
      go_enter Tryd.func10, Tryd.ntmps10
      go_wp2_with (go_at_call 22; refine HS.out.mono ?_; rw [h0]; rintro e w1 ⟨rfl, hb1⟩; have HB1 := Lib.hid hb1; clear hb1)
      refine bodyPost_ret (v := .tuple #[.slice none 0 0, .slice none 0 0, .int .i64 0, .int .i64 3]) (by simp [results, Tryd.results10, go_sem]) rfl ⟨.slice none 0 0, .slice none 0 0, by rw [HC2.out], ?_, ?_, ?_⟩
      · rw [HC2.out]; exact Kd.N_nil _ _ _ _ _
      · rw [HC2.out]; exact Kd.V_nil _ _ _ _ _
      · exact (below_alloc (Below.refl _ _) O).trans (HB1.out.mono (by simp))
  · have h0e : ((sortT t).2 = 0) = False := eq_false h0
    have hc2 : clausesT t = ([], [], 0, (sortT t).2) := by unfold clausesT; rw [if_neg h0]
    have HC2 := Lib.hid hc2
    clear hc2 hC
    go_enter Tryd.func10, Tryd.ntmps10
    go_wp2_with (go_at_call 22; refine HS.out.mono ?_; rintro e w1 ⟨rfl, hb1⟩; have HB1 := Lib.hid hb1; clear hb1)
    refine bodyPost_ret (v := .tuple #[.slice none 0 0, .slice none 0 0, .int .i64 0, .int .i64 (sortT t).2]) (by simp [results, Tryd.results10, go_sem]) rfl ⟨.slice none 0 0, .slice none 0 0, by rw [HC2.out], ?_, ?_, ?_⟩
    · rw [HC2.out]; exact Kd.N_nil _ _ _ _ _
    · rw [HC2.out]; exact Kd.V_nil _ _ _ _ _
    · exact (below_alloc (Below.refl _ _) O).trans (HB1.out.mono (by simp))
end Go.Proofs.YthckboogibhjaaaDoor.Trm
