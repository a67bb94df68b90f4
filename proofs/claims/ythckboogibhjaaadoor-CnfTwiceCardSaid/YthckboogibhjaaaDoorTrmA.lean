/- term.measure.of: how large and how deep a term is. -/
import Derived.Test.YthckboogibhjaaaDoorChecked
import Derived.Test.YthckboogibhjaaaDoorTrmP
import Derived.WalkKit
import Derived.Defers
import Derived.Recover
import Derived.OneCell
import Derived.Lib.Hide
import Derived.RegionTactic
import Derived.StillTailTactics
import Derived.IntWalk
namespace Go.Proofs.YthckboogibhjaaaDoor.Trm
set_option linter.unusedVariables false
set_option linter.unusedSimpArgs false
open Go.RowKit Go.Proofs.YthckboogibhjaaaDoorW.PrintWords Go.Proofs.YthckboogibhjaaaDoorW.PrintMore

theorem bdrewN {B : Nat} {a w : World} (h : Below B a w) (n : Nat) : Below B a (w.drewN n) := ⟨h.os, h.tape, h.output, h.size, h.block⟩

theorem wp_world {P : Program} {c : Code} {Q : Exit → Act → World → Prop} {a : Act} (R : World → Prop) {w0 : World} (h : R w0) (H : ∀ wx, R wx → Code.wp P c Q a wx) : Code.wp P c Q a w0 := H _ h

/-- What was there reads as before. -/
theorem bgrow {W w1 : World} (hb : Below W.heap.size W w1) : (∀ b o, b < W.heap.size → w1.cell? ⟨b, o, none⟩ = W.cell? ⟨b, o, none⟩) ∧ (∀ b o, b < W.heap.size → w1.frozen? ⟨b, o, none⟩ = W.frozen? ⟨b, o, none⟩) ∧ (∀ b, b < W.heap.size → b < w1.heap.size) :=
  ⟨fun b o h => hb.cell (p := ⟨b, o, none⟩) h, fun b o h => hb.frozen (p := ⟨b, o, none⟩) h, fun b h => Nat.lt_of_lt_of_le h hb.size⟩

theorem kcell {W w1 : World} (hb : Below W.heap.size W w1) {p : Addr} {v : Value} (h : W.cell? p = some v) : w1.cell? p = some v := (hb.cell (World.block_lt_of_cell? W _ h)).trans h

/-- All blocks but one are as they were. -/
structure Mv (g : Nat) (w w' : World) : Prop where
  os : w'.os = w.os
  tape : w'.tape = w.tape
  output : w'.output = w.output
  size : w.heap.size ≤ w'.heap.size
  block : ∀ k, k < w.heap.size → k ≠ g → w'.heap[k]? = w.heap[k]?
theorem Mv.refl (g : Nat) (w : World) : Mv g w w := ⟨rfl, rfl, rfl, Nat.le_refl _, fun _ _ _ => rfl⟩
theorem Mv.trans {g : Nat} {a b c : World} (h : Mv g a b) (k : Mv g b c) : Mv g a c :=
  ⟨k.os.trans h.os, k.tape.trans h.tape, k.output.trans h.output, Nat.le_trans h.size k.size, fun i hi hg => (k.block i (Nat.lt_of_lt_of_le hi h.size) hg).trans (h.block i hi hg)⟩
theorem Mv.alloc {g : Nat} {a w : World} (h : Mv g a w) (o : Obj) : Mv g a (w.alloc o) :=
  h.trans ⟨rfl, rfl, rfl, by simp, fun k hk _ => Below.heap_alloc _ _ _ hk⟩
theorem Mv.drew {g : Nat} {a w : World} (h : Mv g a w) : Mv g a w.drew := ⟨h.os, h.tape, h.output, h.size, h.block⟩
theorem Mv.drewN {g : Nat} {a w : World} (h : Mv g a w) (n : Nat) : Mv g a (w.drewN n) := ⟨h.os, h.tape, h.output, h.size, h.block⟩
theorem Mv.set {g : Nat} {a w : World} (h : Mv g a w) (o : Nat) (u : Value) : Mv g a (w.setCell ⟨g, o, none⟩ u) :=
  h.trans ⟨rfl, rfl, rfl, by simp [World.setCell], fun k hk hg => Below.heap_setCell _ _ _ _ hg⟩
theorem Mv.setNew {g : Nat} {a w : World} (h : Mv g a w) {b : Nat} (hb : a.heap.size ≤ b) (o : Nat) (u : Value) : Mv g a (w.setCell ⟨b, o, none⟩ u) :=
  ⟨h.os, h.tape, h.output, by simp [World.setCell]; exact h.size, fun k hk hg => (Below.heap_setCell _ _ _ _ (by show k ≠ b; omega)).trans (h.block k hk hg)⟩
theorem Mv.below {g B : Nat} {w0 a w : World} (h : Mv g a w) (hb : Below B w0 a) (hB : B ≤ a.heap.size) (hg : B ≤ g) : Below B w0 w :=
  hb.trans ⟨h.os, h.tape, h.output, h.size, fun k hk => h.block k (by omega) (by omega)⟩
theorem Mv.cell {g : Nat} {a w : World} (h : Mv g a w) {b o : Nat} (hb : b < a.heap.size) (hg : b ≠ g) : w.cell? ⟨b, o, none⟩ = a.cell? ⟨b, o, none⟩ :=
  World.cell?_of_block (w := a) (h.block b hb hg)
theorem Mv.frozen {g : Nat} {a w : World} (h : Mv g a w) {b o : Nat} (hb : b < a.heap.size) (hg : b ≠ g) : w.frozen? ⟨b, o, none⟩ = a.frozen? ⟨b, o, none⟩ :=
  World.frozen?_of_block (w := a) (h.block b hb hg)

/-- The state of a measure. -/
structure Meas (w : World) (g : Nat) (st : Nat × Nat) : Prop where
  s : w.cell? ⟨g, 0, none⟩ = some (.int .i64 st.1)
  d : w.cell? ⟨g, 1, none⟩ = some (.int .i64 st.2)
  fs : w.frozen? ⟨g, 0, none⟩ = false
  fd : w.frozen? ⟨g, 1, none⟩ = false

theorem meas_size {w wr w5 : World} {o : Obj} (h : (wr.alloc o).heap.size ≤ w5.heap.size) (k : w.heap.size < wr.heap.size) : w.heap.size < w5.heap.size := by
  simp at h; omega

attribute [local go_sem] max2_int in
set_option maxHeartbeats 4000000 in
set_option maxRecDepth 100000 in
theorem of_any : ∀ (n : Nat) (t : S24), tsize t ≤ n → ∀ (A : Option Addr) (c : Nat) (d : Nat) (st : Nat × Nat) (g : Nat) (w0 w : World),
    Kd.C k24 w0 A t.f3.length t.f3 → t.f3.length ≤ c → Below w0.heap.size w0 w → w0.heap.size ≤ g → g < w.heap.size → Meas w g st → st.1 ≤ 2000 → st.2 ≤ 101 → d ≤ 101 →
    Calls Tryd.prog 37 #[.pointer (some ⟨g, 0, none⟩), .agg #[.int .i64 t.f0, .string t.f1, .int .i64 t.f2, .slice A t.f3.length c], .int .i64 d] w fun e w' => e = .returned (.tuple #[]) ∧ Mv g w w' ∧ Meas w' g (ofT t d st) := by
  intro n
  induction n with
  | zero => intro t ht; rw [tsize_mk] at ht; omega
  | succ n ih =>
    intro t ht A c d st g w0 w hC hc hB h0 hg hM h1 h2 h3
    obtain ⟨m1, m2, m3, m4⟩ := hM
    have HC := Lib.hid hC
    have HB := Lib.hid hB
    have HG := Lib.hid h0
    clear hC hB h0
    go_enter Tryd.func37, Tryd.ntmps37
    go_wp2
    all_goals
      go_loopw [27] (fun i wr => ∃ (j : Nat) (sj : Nat × Nat), j ≤ t.f3.length ∧ i = .int .i64 j ∧ j ≤ sj.1 ∧ ofL (t.f3.drop j) d sj = ofT t d st ∧ sj.1 ≤ 2001 ∧ sj.2 ≤ 101 ∧ Mv g w wr ∧ Meas wr g sj ∧ w.heap.size < wr.heap.size) (fun i _ => t.f3.length - (intOf i).toNat)
      case atStart =>
        refine ⟨0, (st.1 + 1, max st.2 d), Nat.zero_le _, rfl, Nat.zero_le _, by rw [List.drop_zero, ofT_mk], by show st.1 + 1 ≤ 2001; omega, by show max st.2 d ≤ 101; omega, ?_, ?_, by simp [World.setCell]⟩
        · exact (((Mv.refl g w).set 0 _).set 1 _).alloc _
        · have hne : g ≠ w.heap.size := by omega
          constructor
          · simp [go_sem, m1, m2, hg]
          · simp [go_sem, m1, m2, hg]; omega
          · simp [go_sem, m3, m4, hg]
          · simp [go_sem, m3, m4, hg]
      case round =>
        obtain ⟨j, sj, hj, rfl, hjs, hL, s1, s2, hMv, ⟨q1, q2, q3, q4⟩, hsz⟩ := hrel
        have hgr : g < wr.heap.size := by omega
        by_cases hjl : j < t.f3.length
        · obtain ⟨ad, A', c', e, x0, x1, x2, x3, l', C'⟩ := at_T24 HC.out (j : Int) (by omega) (by omega)
          have hbr := hMv.below HB.out HB.out.size HG.out
          have hd : t.f3.drop j = rd_T24 t.f3 (j : Int) :: t.f3.drop (j + 1) := by
            rw [List.drop_eq_getElem_cons hjl]; simp [rd_T24, List.getElem?_eq_getElem hjl]
          have hmem : rd_T24 t.f3 (j : Int) ∈ t.f3 := by
            have : rd_T24 t.f3 (j : Int) = t.f3[j] := by simp [rd_T24, List.getElem?_eq_getElem hjl]
            rw [this]; exact List.getElem_mem hjl
          have hts := lsize_mem hmem
          rw [tsize_mk] at ht
          rw [hd, ofL] at hL
          generalize rd_T24 t.f3 (j : Int) = x at *
          have z0 := World.block_lt_of_cell? w0 _ x0
          replace x0 := (hbr.cell (World.block_lt_of_cell? w0 _ x0)).trans x0
          replace x1 := (hbr.cell (World.block_lt_of_cell? w0 _ x1)).trans x1
          replace x2 := (hbr.cell (World.block_lt_of_cell? w0 _ x2)).trans x2
          replace x3 := (hbr.cell (World.block_lt_of_cell? w0 _ x3)).trans x3
          rw [Int.toNat_natCast] at x0 x1 x2 x3
          subst e
          have HL := Lib.hid hL
          have HM := Lib.hid hMv
          have HBr := Lib.hid hbr
          have HCx := Lib.hid C'
          have HE := Lib.hid hd
          clear hL hMv hbr C' hd
          have e1 : ((d + 1 : Nat) : Int) = (d : Int) + 1 := by omega
          have IH : ∀ W : World, Below w0.heap.size w0 W → g < W.heap.size → Meas W g sj → sj.1 ≤ 2000 → d ≤ 100 → Calls Tryd.prog 37 #[.pointer (some ⟨g, 0, none⟩), .agg #[.int .i64 x.f0, .string x.f1, .int .i64 x.f2, .slice A' x.f3.length c'], .int .i64 ((d : Int) + 1)] W fun e w' => e = .returned (.tuple #[]) ∧ Mv g W w' ∧ Meas w' g (ofT x (d + 1) sj) := by
            intro W b1 b2 b3 b4 b5
            have := ih x (by omega) A' c' (d + 1) sj g w0 W HCx.out l' b1 HG.out b2 b3 b4 s2 (by omega)
            rwa [e1] at this
          have HIH := Lib.hid IH
          clear IH ih
          by_cases hc2 : 2000 < sj.1 ∨ 100 < d
          · have hL2 := HL.out
            rw [if_pos hc2] at hL2
            have HL2 := Lib.hid hL2
            clear hL2 HL
            go_wp2
            all_goals (try (exfalso; omega))
            all_goals
              refine bodyPost_ret (v := .tuple #[]) (by simp [results, Tryd.results37, go_sem]) rfl ⟨rfl, HM.out.alloc _, ?_⟩
              rw [← HL2.out]
              exact ⟨by simp [go_sem, q1, hgr], by simp [go_sem, q2, hgr], by simp [go_sem, q3, hgr], by simp [go_sem, q4, hgr]⟩
          · have hL2 := HL.out
            rw [if_neg hc2] at hL2
            have HL2 := Lib.hid hL2
            have hof := ofT_le x (d + 1) sj (by omega) s2 (by omega)
            clear hL2 HL
            go_wp2_with (go_at_call 37; refine (HIH.out _ ?b1 ?b2 ?b3 (by omega) (by omega)).mono ?_; (case b1 => exact HBr.out.alloc (Nat.le_trans HB.out.size (by omega)) _); (case b2 => simp; omega); (case b3 => exact ⟨by simp [go_sem, q1, hgr], by simp [go_sem, q2, hgr], by simp [go_sem, q3, hgr], by simp [go_sem, q4, hgr]⟩); rintro e w5 ⟨rfl, hv, hm⟩; have HV := Lib.hid ((HM.out.alloc _).trans hv); have HS := Lib.hid hv.size; have HMM := Lib.hid hm; clear hv hm)
            all_goals (try (exfalso; omega))
            have kj : (j : Int) + 1 = ((j + 1 : Nat) : Int) := rfl
            refine ⟨⟨j + 1, ofT x (d + 1) sj, hjl, by rw [kj], Nat.le_trans (Nat.succ_le_succ hjs) hof.2.2, HL2.out, hof.1, hof.2.1, HV.out, HMM.out, meas_size HS.out hsz⟩, ?_⟩
            rw [kj]; simp only [intOf, Int.toNat_natCast]; exact Nat.sub_lt_sub_left hjl (Nat.lt_succ_self _)
        · have hjj : j = t.f3.length := by omega
          subst hjj
          rw [List.drop_length, ofL] at hL
          go_wp2
          refine bodyPost_end (v := .tuple #[]) (by simp [results, Tryd.results37, go_sem]) rfl ⟨rfl, hMv, ?_⟩
          rw [← hL]
          exact ⟨q1, q2, q3, q4⟩
end Go.Proofs.YthckboogibhjaaaDoor.Trm
