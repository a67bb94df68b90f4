/- term.right: whether a term is, but for its size, and of a sort. -/
import Derived.Test.YthckboogibhjaaaDoorTrmQ
import Derived.Deep.QuietTactic
import Derived.BigQuiet
import Derived.Deep.RegionHeld3
import Derived.Deep.Draws
import Derived.Deep.DeepCutAuto
import Derived.RegionTactic
import Derived.LoopTactic
namespace Go.Proofs.YthckboogibhjaaaDoor.Trm
set_option linter.unusedVariables false
set_option linter.unusedSimpArgs false
open Go.RowKit Go.Proofs.YthckboogibhjaaaDoorW.PrintWords Go.Proofs.YthckboogibhjaaaDoorW.PrintMore

set_option maxHeartbeats 8000000 in
set_option maxRecDepth 100000 in
theorem right_any : ∀ (n : Nat) (t : S24), tsize t ≤ n → ∀ (A : Option Addr) (c : Nat) (bt : Nat) (want : Int) (w0 w : World),
    Kd.C k24 w0 A t.f3.length t.f3 → t.f3.length ≤ c → Below w0.heap.size w0 w → TabAt w0 bt →
    Calls Tryd.prog 39 #[.agg #[.int .i64 t.f0, .string t.f1, .int .i64 t.f2, .slice A t.f3.length c], .pointer (some ⟨bt, 0, none⟩), .int .i64 want] w fun e w' => e = .returned (.bool (rightT t want)) ∧ Below w.heap.size w w' := by
  intro n
  induction n with
  | zero => intro t ht; rw [tsize_mk] at ht; omega
  | succ n ih =>
    intro t ht A c bt want w0 w hC hc hB hT
    have HC := Lib.hid hC
    have HB := Lib.hid hB
    have HT := Lib.hid hT
    have HIH := Lib.hid ih
    clear hC hB hT ih
    have hR := rightT_mk t want
    by_cases hop : t.f0 < 1 ∨ 28 < t.f0
    · rw [if_pos hop] at hR
      rw [hR]
      go_enter Tryd.func39, Tryd.ntmps39
      go_wp2
      all_goals (try (exfalso; omega))
      all_goals exact bodyPost_ret (v := .bool false) (by simp [results, Tryd.results39, go_sem]) rfl ⟨rfl, (by repeat (first | exact Below.refl _ _ | with_reducible assumption | refine Below.alloc ?_ (by first | exact Nat.le_refl _ | (simp; done) | (simp; omega) | omega) _ | refine Below.setCell ?_ (by first | exact Nat.le_refl _ | (simp; done) | (simp; omega) | omega) _ | refine Below.drew ?_ | refine bdrewN ?_ _))⟩
    · rw [if_neg hop] at hR
      obtain ⟨i, hi⟩ : ∃ i : Nat, t.f0 = i := Int.eq_ofNat_of_zero_le (by omega)
      have hi29 : i < 29 := by omega
      rw [hi, Int.toNat_natCast] at hR
      obtain ⟨As, y0, y1, y2, y3, y4, yC⟩ := HT.out i hi29
      have z0 := World.block_lt_of_cell? w0 _ y0
      have y0' := (HB.out.cell (World.block_lt_of_cell? w0 _ y0)).trans y0
      have y1' := (HB.out.cell (World.block_lt_of_cell? w0 _ y1)).trans y1
      have y2' := (HB.out.cell (World.block_lt_of_cell? w0 _ y2)).trans y2
      have y3' := (HB.out.cell (World.block_lt_of_cell? w0 _ y3)).trans y3
      have y4' := (HB.out.cell (World.block_lt_of_cell? w0 _ y4)).trans y4
      clear y0 y1 y2 y3 y4
      have hlen := shp_len hi29
      have hmany := fun h => shp_many hi29 h
      generalize shp i = s at *
      have HR := Lib.hid hR
      clear hR
      have h28 : (28 < (i : Int)) = False := eq_false (by omega)
      have h01 : ((i : Int) < 1) = False := eq_false (by omega)
      rw [hi]
      clear hop
      have h29 : ((i : Int) < 29) = True := eq_true (by omega)
      go_enter Tryd.func39, Tryd.ntmps39
      have zb : bt < w.heap.size := Nat.lt_of_lt_of_le z0 HB.out.size
      have zb2 : bt < w.heap.size + 1 := by omega
      have e0 : (w.alloc (.cells #[.int .i64 i, .string t.f1, .int .i64 t.f2, .slice A t.f3.length c] 24)).heap[w.heap.size]? = some (.cells #[.int .i64 i, .string t.f1, .int .i64 t.f2, .slice A t.f3.length c] 24 (0, 0)) := blk_new _ _
      have E0 := Lib.hid e0
      clear e0
      go_wp2
      all_goals (try (exfalso; omega))
      refine wp_region_held_drew (S := (fun w' => w'.cell? ⟨bt, i * 5, none⟩ = some (.int .i64 s.sort) ∧ w'.cell? ⟨bt, i * 5 + 1, none⟩ = some (.bool s.name) ∧ w'.cell? ⟨bt, i * 5 + 2, none⟩ = some (.bool s.number) ∧ w'.cell? ⟨bt, i * 5 + 3, none⟩ = some (.slice As s.a.length s.a.length) ∧ w'.cell? ⟨bt, i * 5 + 4, none⟩ = some (.bool s.many) ∧ w'.cell? ⟨w.heap.size, 0, none⟩ = some (.int .i64 i))) (by kernel_rfl) ?_ (fun hHeld => ?_)
      · (refine ⟨?_, ?_, ?_, ?_, ?_, ?_⟩ <;> (simp [go_sem, y0', y1', y2', y3', y4', zb, zb2]; done))
      refine wpAnyH_take (i := 0) (oi := { dst := some 18, op := Go.Op.move (Go.Operand.tmp 1), type := 65, pos := "term.go:121", after := #[], guard := none }) (v := ?_) rfl (by kernel_rfl) (by kernel_rfl) (by kernel_rfl) (fun _ _ _ h => h) (Or.inl ⟨by rfl, ?_⟩) (by assumption) ?_
      rotate_left 1
      · intro w_ hSw; (try dsimp only at hSw); go_simp; all_goals (with_reducible rfl)
      focus try simp only [Act.put, List.setIfInBounds_toArray, List.set_cons_zero, List.set_cons_succ]
      refine wpAnyH_take (i := 1) (oi := { dst := some 19, op := Go.Op.fieldAddr 24 (Go.Operand.tmp 3) 0, type := 0, pos := "term.go:121", after := #[], guard := none }) (v := ?_) rfl (by kernel_rfl) (by kernel_rfl) (by kernel_rfl) (fun _ _ _ h => h) (Or.inl ⟨by rfl, ?_⟩) (by assumption) ?_
      rotate_left 1
      · intro w_ hSw; (try dsimp only at hSw); go_simp; all_goals (with_reducible rfl)
      focus try simp only [Act.put, List.setIfInBounds_toArray, List.set_cons_zero, List.set_cons_succ]
      refine wpAnyH_take (i := 2) (oi := { dst := some 20, op := Go.Op.load 3 (Go.Operand.tmp 19), type := 3, pos := "term.go:121", after := #[{ on := 1, ground := Go.Ground.data }], guard := none }) (v := ?_) rfl (by kernel_rfl) (by kernel_rfl) (by kernel_rfl) (fun _ _ _ h => h) (Or.inl ⟨by rfl, ?_⟩) (by assumption) ?_
      rotate_left 1
      · intro w_ hSw; (try dsimp only at hSw); go_simp; all_goals (with_reducible rfl)
      focus try simp only [Act.put, List.setIfInBounds_toArray, List.set_cons_zero, List.set_cons_succ]
      refine wpAnyH_take (i := 3) (oi := { dst := some 21, op := Go.Op.nilCheck (Go.Operand.tmp 18), type := 0, pos := "term.go:121", after := #[{ on := 0, ground := Go.Ground.data }], guard := none }) (v := ?_) rfl (by kernel_rfl) (by kernel_rfl) (by kernel_rfl) (fun _ _ _ h => h) (Or.inl ⟨by rfl, ?_⟩) (by assumption) ?_
      rotate_left 1
      · intro w_ hSw; (try dsimp only at hSw); go_simp; all_goals (with_reducible rfl)
      focus try simp only [Act.put, List.setIfInBounds_toArray, List.set_cons_zero, List.set_cons_succ]
      refine wpAnyH_take (i := 4) (oi := { dst := some 22, op := Go.Op.indexAddr 62 (Go.Operand.tmp 21) (Go.Operand.tmp 20), type := 0, pos := "term.go:121", after := #[{ on := 3, ground := Go.Ground.data }, { on := 2, ground := Go.Ground.data }], guard := none }) (v := ?_) rfl (by kernel_rfl) (by kernel_rfl) (by kernel_rfl) (fun _ _ _ h => h) (Or.inl ⟨by rfl, ?_⟩) (by assumption) ?_
      rotate_left 1
      · intro w_ hSw; (try dsimp only at hSw); go_simp; all_goals (with_reducible rfl)
      focus try simp only [Act.put, List.setIfInBounds_toArray, List.set_cons_zero, List.set_cons_succ]
      refine wpAnyH_take (i := 5) (oi := { dst := some 23, op := Go.Op.load 61 (Go.Operand.tmp 22), type := 61, pos := "term.go:121", after := #[{ on := 4, ground := Go.Ground.data }], guard := none }) (v := ?_) rfl (by kernel_rfl) (by kernel_rfl) (by kernel_rfl) (fun _ _ _ h => h) (Or.inl ⟨by rfl, ?_⟩) (by assumption) ?_
      rotate_left 1
      · intro w_ hSw; (try dsimp only at hSw); go_simp; all_goals (with_reducible rfl)
      focus try simp only [Act.put, List.setIfInBounds_toArray, List.set_cons_zero, List.set_cons_succ]
      refine wpAnyH_ready (rs := [6]) (by kernel_rfl) (by simp) ?_
      refine AllReadyH.cons (o := { dst := some 7, op := Go.Op.alloc 61, type := 0, pos := "term.go:121", after := #[], guard := none }) rfl (fun K hK => ?_) (AllReadyH.nil)
      focus go_simp
      refine hK.out _ _ ?_ (fun hHeld => ?_)
      · (refine ⟨?_, ?_, ?_, ?_, ?_, ?_⟩ <;> (simp [go_sem, y0', y1', y2', y3', y4', zb, zb2]; done))
      focus clear hK K
      focus try simp only [Act.put, List.setIfInBounds_toArray, List.set_cons_zero, List.set_cons_succ]
      refine wpAnyH_ready (rs := [7]) (by kernel_rfl) (by simp) ?_
      refine AllReadyH.cons (o := { dst := none, op := Go.Op.store 61 (Go.Operand.tmp 7) (Go.Operand.tmp 23), type := 0, pos := "term.go:121", after := #[{ on := 6, ground := Go.Ground.data }, { on := 5, ground := Go.Ground.data }, { on := 0, ground := Go.Ground.phase }, { on := 1, ground := Go.Ground.phase }, { on := 2, ground := Go.Ground.phase }, { on := 3, ground := Go.Ground.phase }, { on := 4, ground := Go.Ground.phase }, { on := 5, ground := Go.Ground.phase }, { on := 6, ground := Go.Ground.phase }], guard := none }) rfl (fun K hK => ?_) (AllReadyH.nil)
      focus go_simp
      refine hK.out _ _ ?_ (fun hHeld => ?_)
      · (refine ⟨?_, ?_, ?_, ?_, ?_, ?_⟩ <;> (simp [go_sem, y0', y1', y2', y3', y4', zb, zb2]; done))
      focus clear hK K
      focus try simp only [Act.put, List.setIfInBounds_toArray, List.set_cons_zero, List.set_cons_succ]
      refine wpAnyH_done (by kernel_rfl) ?_ _
      rotate_left 1
      go_upto_region 4 with (fail)
      refine wp_world (fun wx => Below w.heap.size w wx ∧ wx.heap[w.heap.size]? = some (.cells #[.int .i64 i, .string t.f1, .int .i64 t.f2, .slice A t.f3.length c] 24 (0, 0)) ∧ wx.heap[w.heap.size + 1]? = some (.cells #[.int .i64 s.sort, .bool s.name, .bool s.number, .slice As s.a.length s.a.length, .bool s.many] 61 (0, 0))) ⟨(by repeat (first | exact Below.refl _ _ | with_reducible assumption | refine Below.alloc ?_ (by first | exact Nat.le_refl _ | (simp; done) | (simp; omega) | omega) _ | refine Below.setCell ?_ (by first | exact Nat.le_refl _ | (simp; done) | (simp; omega) | omega) _ | refine Below.drew ?_ | refine bdrewN ?_ _)), blk_drew (blk_alloc E0.out _), blk_drew (by have := blk_new (w.alloc (.cells #[.int .i64 i, .string t.f1, .int .i64 t.f2, .slice A t.f3.length c] 24)) (.cells #[.int .i64 s.sort, .bool s.name, .bool s.number, .slice As s.a.length s.a.length, .bool s.many] 61); simpa using this)⟩ ?_
      rintro wx ⟨hbx, k0, k1⟩
      clear y0' y1' y2' y3' y4' E0
      have HBX := Lib.hid hbx
      have K0 := Lib.hid k0
      have K1 := Lib.hid k1
      clear hbx k0 k1
      go_cut [0, 2, 75] (fun v0 v2 v75 w' => v0 = .agg #[.int .i64 i, .string t.f1, .int .i64 t.f2, .slice A t.f3.length c] ∧ v2 = .int .i64 want ∧ v75 = .bool (!okHead s t.f1 t.f2 t.f3.length want) ∧ Below w.heap.size w w' ∧ w'.heap[w.heap.size]? = some (.cells #[.int .i64 i, .string t.f1, .int .i64 t.f2, .slice A t.f3.length c] 24 (0, 0)) ∧ w'.heap[w.heap.size + 1]? = some (.cells #[.int .i64 s.sort, .bool s.name, .bool s.number, .slice As s.a.length s.a.length, .bool s.many] 61 (0, 0)))
      case first =>
        have a1 := (blk_cell K0.out 1).trans rfl
        have a2 := (blk_cell K0.out 2).trans rfl
        have a3 := (blk_cell K0.out 3).trans rfl
        have b0 := (blk_cell K1.out 0).trans rfl
        have b1 := (blk_cell K1.out 1).trans rfl
        have b2 := (blk_cell K1.out 2).trans rfl
        have b3 := (blk_cell K1.out 3).trans rfl
        have b4 := (blk_cell K1.out 4).trans rfl
        go_wp2_with (go_at_call 51; refine (Name_any _ _).mono ?_; rintro e w1 ⟨rfl, hb1⟩; have a1' := (blk_cell (blk_below K0.out hb1) 1).trans rfl; have a2' := (blk_cell (blk_below K0.out hb1) 2).trans rfl; have a3' := (blk_cell (blk_below K0.out hb1) 3).trans rfl; have b1' := (blk_cell (blk_below K1.out hb1) 1).trans rfl; have b2' := (blk_cell (blk_below K1.out hb1) 2).trans rfl; have b3' := (blk_cell (blk_below K1.out hb1) 3).trans rfl; have b4' := (blk_cell (blk_below K1.out hb1) 4).trans rfl)
        all_goals
          go_meet
          case rel =>
            refine ⟨by simp [*], by simp [*], ?_, by first | exact HBX.out | exact HBX.out.trans (hb1.mono HBX.out.size), by first | exact K0.out | exact blk_below K0.out hb1, by first | exact K1.out | exact blk_below K1.out hb1⟩
            clear HIH HC HB HT HBX K0 K1 HR
            simp [okHead, *]
      case rest =>
        obtain ⟨r0, r2, r75, hbc, k0c, k1c⟩ := hcut
        subst r0 r2 r75
        have HBC := Lib.hid hbc
        have K0 := Lib.hid k0c
        have K1 := Lib.hid k1c
        clear hbc k0c k1c
        cases hok : okHead s t.f1 t.f2 t.f3.length want with
        | false =>
          go_wp2
          exact bodyPost_ret (v := .bool false) (by simp [results, Tryd.results39, go_sem]) rfl ⟨by rw [HR.out, hok]; rfl, HBC.out⟩
        | true =>
          have hRR := HR.out
          rw [hok, Bool.true_and] at hRR
          have HR2 := Lib.hid hRR
          clear hRR HR
          have a3 := (blk_cell K0.out 3).trans rfl
          go_wp2
          go_loopw [79] (fun v wr => ∃ j : Nat, j ≤ t.f3.length ∧ v = .int .i64 j ∧ rightL t.f3 s 0 = rightL (t.f3.drop j) s j ∧ Below wc.heap.size wc wr) (fun v _ => t.f3.length - (intOf v).toNat)
          case atStart => exact ⟨0, Nat.zero_le _, rfl, by rw [List.drop_zero], Below.refl _ _⟩
          case round =>
            obtain ⟨j, hj, rfl, hL, hbr⟩ := hrel
            by_cases hjl : j < t.f3.length
            · have hmax := Kd.C_max HC.out
              obtain ⟨ad, A', c', e, x0, x1, x2, x3, l', C'⟩ := at_T24 HC.out (j : Int) (by omega) (by omega)
              have hbw : Below w0.heap.size w0 wr := (HB.out.trans (HBC.out.mono HB.out.size)).trans (hbr.mono (Nat.le_trans HB.out.size HBC.out.size))
              have hd : t.f3.drop j = rd_T24 t.f3 (j : Int) :: t.f3.drop (j + 1) := by
                rw [List.drop_eq_getElem_cons hjl]; simp [rd_T24, List.getElem?_eq_getElem hjl]
              have hmem : rd_T24 t.f3 (j : Int) ∈ t.f3 := by
                have : rd_T24 t.f3 (j : Int) = t.f3[j] := by simp [rd_T24, List.getElem?_eq_getElem hjl]
                rw [this]; exact List.getElem_mem hjl
              have hts := lsize_mem hmem
              rw [tsize_mk] at ht
              rw [hd, rightL] at hL
              generalize rd_T24 t.f3 (j : Int) = x at *
              replace x0 := (hbw.cell (World.block_lt_of_cell? w0 _ x0)).trans x0
              replace x1 := (hbw.cell (World.block_lt_of_cell? w0 _ x1)).trans x1
              replace x2 := (hbw.cell (World.block_lt_of_cell? w0 _ x2)).trans x2
              replace x3 := (hbw.cell (World.block_lt_of_cell? w0 _ x3)).trans x3
              rw [Int.toNat_natCast] at x0 x1 x2 x3
              subst e
              cases hmm : s.many with
              | true =>
                have hix : 0 < s.a.length := by rw [hmany hmm]; exact Nat.zero_lt_one
                rw [hmm, if_pos rfl] at hL
                have ra := Kd.at_int yC ((0 : Nat) : Int) (by omega) (by omega)
                obtain ⟨adS, eA, ya⟩ := ra
                replace ya := (hbw.cell (World.block_lt_of_cell? w0 _ ya)).trans ya
                have erd : rd s.a ((0 : Nat) : Int) = s.a.getD 0 0 := by unfold rd; rw [Int.toNat_natCast]
                rw [erd, Int.toNat_natCast] at ya
                subst eA
                have eAz : adS.add 0 = adS := by simp [Addr.add]
                rw [eAz] at ya
                obtain ⟨vI, hvI⟩ : ∃ v, v = s.a.getD 0 0 := ⟨_, rfl⟩
                rw [← hvI] at ya hL
                clear erd hvI
                have zya := World.block_lt_of_cell? wr _ ya
                have b4 : wr.cell? ⟨w.heap.size + 1, 4, none⟩ = some (.bool true) := (blk_cell (blk_below K1.out hbr) 4).trans (by rw [hmm]; rfl)
                have b3 : wr.cell? ⟨w.heap.size + 1, 3, none⟩ = some (.slice (some adS) s.a.length s.a.length) := (blk_cell (blk_below K1.out hbr) 3).trans rfl
                have zl : w.heap.size + 1 < wr.heap.size := blk_lt (blk_below K1.out hbr)
                have p1 : ((0 : Int) < (s.a.length : Int)) = True := eq_true (by omega)
                have p0 : (0 ≤ (0 : Int)) = True := eq_true (by omega)
                have hxn : tsize x ≤ n := by clear p1 p0; omega
                have HL := Lib.hid hL
                have HBR := Lib.hid hbr
                have HBW := Lib.hid hbw
                have HCx := Lib.hid C'
                clear hL hbr hbw C'
                have ycell : ∀ o, (wr.alloc o).cell? adS = some (.int .i64 vI) := fun o => by rw [World.cell?_alloc_some _ _ _ (by rw [ya]; rfl), ya]
                have YC := Lib.hid ycell
                clear ycell
                go_upto_region 11 with (fail)
                refine wp_region_held_drew (S := (fun w' => w'.cell? ⟨wr.heap.size, 0, none⟩ = some (.int .i64 x.f0) ∧ w'.cell? ⟨wr.heap.size, 1, none⟩ = some (.string x.f1) ∧ w'.cell? ⟨wr.heap.size, 2, none⟩ = some (.int .i64 x.f2) ∧ w'.cell? ⟨wr.heap.size, 3, none⟩ = some (.slice A' x.f3.length c') ∧ w'.cell? ⟨w.heap.size + 1, 3, none⟩ = some (.slice (some adS) s.a.length s.a.length) ∧ w'.cell? adS = some (.int .i64 vI) ∧ Below w0.heap.size w0 w' ∧ Below wr.heap.size wr w')) (by kernel_rfl) ?_ (fun hHeld => ?_)
                · exact ⟨by simp [go_sem], by simp [go_sem], by simp [go_sem], by simp [go_sem], by simp [go_sem, b3, zl], YC.out _, (HBW.out.alloc HBW.out.size _).drew, ((Below.refl _ _).alloc (Nat.le_refl _) _).drew⟩
                refine wpAnyH_take (i := 0) (oi := { dst := some 86, op := Go.Op.load 24 (Go.Operand.tmp 9), type := 24, pos := "term.go:129", after := #[], guard := none }) (v := ?_) rfl (by kernel_rfl) (by kernel_rfl) (by kernel_rfl) (fun _ _ _ h => h) (Or.inl ⟨by rfl, ?_⟩) (by assumption) ?_
                rotate_left 1
                · intro w_ hSw; (try dsimp only at hSw); go_simp; all_goals (with_reducible rfl)
                focus try simp only [Act.put, List.setIfInBounds_toArray, List.set_cons_zero, List.set_cons_succ]
                refine wpAnyH_take (i := 1) (oi := { dst := some 87, op := Go.Op.move (Go.Operand.tmp 1), type := 65, pos := "term.go:129", after := #[], guard := none }) (v := ?_) rfl (by kernel_rfl) (by kernel_rfl) (by kernel_rfl) (fun _ _ _ h => h) (Or.inl ⟨by rfl, ?_⟩) (by assumption) ?_
                rotate_left 1
                · intro w_ hSw; (try dsimp only at hSw); go_simp; all_goals (with_reducible rfl)
                focus try simp only [Act.put, List.setIfInBounds_toArray, List.set_cons_zero, List.set_cons_succ]
                refine wpAnyH_take (i := 2) (oi := { dst := some 88, op := Go.Op.fieldAddr 61 (Go.Operand.tmp 7) 3, type := 0, pos := "term.go:129", after := #[], guard := none }) (v := ?_) rfl (by kernel_rfl) (by kernel_rfl) (by kernel_rfl) (fun _ _ _ h => h) (Or.inl ⟨by rfl, ?_⟩) (by assumption) ?_
                rotate_left 1
                · intro w_ hSw; (try dsimp only at hSw); go_simp; all_goals (with_reducible rfl)
                focus try simp only [Act.put, List.setIfInBounds_toArray, List.set_cons_zero, List.set_cons_succ]
                refine wpAnyH_take (i := 3) (oi := { dst := some 89, op := Go.Op.load 32 (Go.Operand.tmp 88), type := 32, pos := "term.go:129", after := #[{ on := 2, ground := Go.Ground.data }], guard := none }) (v := ?_) rfl (by kernel_rfl) (by kernel_rfl) (by kernel_rfl) (fun _ _ _ h => h) (Or.inl ⟨by rfl, ?_⟩) (by assumption) ?_
                rotate_left 1
                · intro w_ hSw; (try dsimp only at hSw); go_simp; all_goals (with_reducible rfl)
                focus try simp only [Act.put, List.setIfInBounds_toArray, List.set_cons_zero, List.set_cons_succ]
                refine wpAnyH_take (i := 4) (oi := { dst := some 90, op := Go.Op.move (Go.Operand.tmp 8), type := 3, pos := "term.go:129", after := #[], guard := none }) (v := ?_) rfl (by kernel_rfl) (by kernel_rfl) (by kernel_rfl) (fun _ _ _ h => h) (Or.inl ⟨by rfl, ?_⟩) (by assumption) ?_
                rotate_left 1
                · intro w_ hSw; (try dsimp only at hSw); go_simp; all_goals (with_reducible rfl)
                focus try simp only [Act.put, List.setIfInBounds_toArray, List.set_cons_zero, List.set_cons_succ]
                refine wpAnyH_take (i := 5) (oi := { dst := some 91, op := Go.Op.indexAddr 32 (Go.Operand.tmp 89) (Go.Operand.tmp 90), type := 0, pos := "term.go:129", after := #[{ on := 3, ground := Go.Ground.data }, { on := 4, ground := Go.Ground.data }], guard := none }) (v := ?_) rfl (by kernel_rfl) (by kernel_rfl) (by kernel_rfl) (fun _ _ _ h => h) (Or.inl ⟨by rfl, ?_⟩) (by assumption) ?_
                rotate_left 1
                · intro w_ hSw; (try dsimp only at hSw); go_simp; all_goals (with_reducible rfl)
                focus try simp only [Act.put, List.setIfInBounds_toArray, List.set_cons_zero, List.set_cons_succ]
                refine wpAnyH_take (i := 6) (oi := { dst := some 92, op := Go.Op.load 3 (Go.Operand.tmp 91), type := 3, pos := "term.go:129", after := #[{ on := 5, ground := Go.Ground.data }], guard := none }) (v := ?_) rfl (by kernel_rfl) (by kernel_rfl) (by kernel_rfl) (fun _ _ _ h => h) (Or.inl ⟨by rfl, ?_⟩) (by assumption) ?_
                rotate_left 1
                · intro w_ hSw; (try dsimp only at hSw); go_simp; all_goals (with_reducible rfl)
                focus try simp only [Act.put, List.setIfInBounds_toArray, List.set_cons_zero, List.set_cons_succ]
                refine wpAnyH_ready (rs := [7]) (by kernel_rfl) (by simp) ?_
                refine AllReadyH.cons (o := { dst := some 93, op := Go.Op.call { callee := Go.Callee.value (Go.Operand.func 39), args := #[Go.Operand.tmp 86, Go.Operand.tmp 87, Go.Operand.tmp 92], argTypes := #[24, 65, 3] }, type := 4, pos := "term.go:129", after := #[{ on := 0, ground := Go.Ground.data }, { on := 1, ground := Go.Ground.data }, { on := 6, ground := Go.Ground.data }], guard := none }) rfl (fun K hK => ?_) (AllReadyH.nil)
                focus go_simp
                focus (refine (HIH.out x hxn A' c' bt vI w0 _ HCx.out l' ?hb HT.out).mono ?_; (case hb => exact (HBW.out.alloc HBW.out.size _).drew); rintro e w2 ⟨rfl, hb2⟩)
                focus try simp only []
                refine hK.out _ _ ?_ (fun hHeld => ?_)
                · exact ⟨kcell hb2 hHeld.1, kcell hb2 hHeld.2.1, kcell hb2 hHeld.2.2.1, kcell hb2 hHeld.2.2.2.1, kcell hb2 hHeld.2.2.2.2.1, kcell hb2 hHeld.2.2.2.2.2.1, hHeld.2.2.2.2.2.2.1.trans (hb2.mono hHeld.2.2.2.2.2.2.1.size), hHeld.2.2.2.2.2.2.2.trans (hb2.mono hHeld.2.2.2.2.2.2.2.size)⟩
                focus clear hK K
                focus try simp only [Act.put, List.setIfInBounds_toArray, List.set_cons_zero, List.set_cons_succ]
                refine wpAnyH_take (i := 8) (oi := { dst := some 94, op := Go.Op.unOp Go.UnOp.not 4 (Go.Operand.tmp 93), type := 4, pos := "term.go:129", after := #[{ on := 7, ground := Go.Ground.data }], guard := none }) (v := ?_) rfl (by kernel_rfl) (by kernel_rfl) (by kernel_rfl) (fun _ _ _ h => h) (Or.inl ⟨by rfl, ?_⟩) (by assumption) ?_
                rotate_left 1
                · intro w_ hSw; (try dsimp only at hSw); go_simp; all_goals (with_reducible rfl)
                focus try simp only [Act.put, List.setIfInBounds_toArray, List.set_cons_zero, List.set_cons_succ]
                refine wpAnyH_done (by kernel_rfl) ?_ _
                rotate_left 1
                have hw2 := hHeld.2.2.2.2.2.2.2
                clear hHeld
                have HW2 := Lib.hid hw2
                clear hw2
                cases hrx : rightT x vI with
                | false =>
                  have hl2 := HL.out
                  rw [hrx, Bool.false_and] at hl2
                  have HL2 := Lib.hid hl2
                  clear hl2 HL
                  go_wp2
                  exact bodyPost_ret (v := .bool false) (by simp [results, Tryd.results39, go_sem]) rfl ⟨by rw [HR2.out, HL2.out], (HBC.out.trans (HBR.out.mono HBC.out.size)).trans (HW2.out.mono (Nat.le_trans HBC.out.size HBR.out.size))⟩
                | true =>
                  have hl2 := HL.out
                  rw [hrx, Bool.true_and] at hl2
                  have HL2 := Lib.hid hl2
                  clear hl2 HL
                  have hj9 : j + 1 < 9223372036854775808 := by clear p1 p0; omega
                  have ew : wrap64 ((j : Int) + 1) = ((j + 1 : Nat) : Int) := wrapj hj9
                  have EW := Lib.hid ew
                  clear ew
                  go_wp2
                  refine ⟨?_, ?_⟩
                  · refine ⟨_, _, _, _, _, _, _, _, _, _, _, _, _, _, _, _, _, _, _, _, ?_, rfl⟩
                    exact ⟨j + 1, hjl, by first | rfl | rw [EW.out], HL2.out, HBR.out.trans (HW2.out.mono HBR.out.size)⟩
                  · first
                    | exact Nat.sub_lt_sub_left hjl (Nat.lt_succ_self _)
                    | (simp only [EW.out, List.getD_toArray, List.getD_cons_succ, List.getD_cons_zero, intOf, Int.toNat_natCast]; exact Nat.sub_lt_sub_left hjl (Nat.lt_succ_self _))
              | false =>
                have hix : j < s.a.length := by rw [← ok_len hok hmm]; exact hjl
                rw [hmm, if_neg (by decide)] at hL
                have ra := Kd.at_int yC ((j : Nat) : Int) (by omega) (by omega)
                obtain ⟨adS, eA, ya⟩ := ra
                replace ya := (hbw.cell (World.block_lt_of_cell? w0 _ ya)).trans ya
                have erd : rd s.a ((j : Nat) : Int) = s.a.getD j 0 := by unfold rd; rw [Int.toNat_natCast]
                rw [erd, Int.toNat_natCast] at ya
                subst eA
                obtain ⟨vI, hvI⟩ : ∃ v, v = s.a.getD j 0 := ⟨_, rfl⟩
                rw [← hvI] at ya hL
                clear erd hvI
                have zya := World.block_lt_of_cell? wr _ ya
                have b4 : wr.cell? ⟨w.heap.size + 1, 4, none⟩ = some (.bool false) := (blk_cell (blk_below K1.out hbr) 4).trans (by rw [hmm]; rfl)
                have b3 : wr.cell? ⟨w.heap.size + 1, 3, none⟩ = some (.slice (some adS) s.a.length s.a.length) := (blk_cell (blk_below K1.out hbr) 3).trans rfl
                have zl : w.heap.size + 1 < wr.heap.size := blk_lt (blk_below K1.out hbr)
                have p1 : ((j : Int) < (s.a.length : Int)) = True := eq_true (by omega)
                have p0 : (0 ≤ (j : Int)) = True := eq_true (by omega)
                have hxn : tsize x ≤ n := by clear p1 p0; omega
                have HL := Lib.hid hL
                have HBR := Lib.hid hbr
                have HBW := Lib.hid hbw
                have HCx := Lib.hid C'
                clear hL hbr hbw C'
                have ycell : ∀ o, (wr.alloc o).cell? (adS.add j) = some (.int .i64 vI) := fun o => by rw [World.cell?_alloc_some _ _ _ (by rw [ya]; rfl), ya]
                have YC := Lib.hid ycell
                clear ycell
                go_upto_region 11 with (fail)
                refine wp_region_held_drew (S := (fun w' => w'.cell? ⟨wr.heap.size, 0, none⟩ = some (.int .i64 x.f0) ∧ w'.cell? ⟨wr.heap.size, 1, none⟩ = some (.string x.f1) ∧ w'.cell? ⟨wr.heap.size, 2, none⟩ = some (.int .i64 x.f2) ∧ w'.cell? ⟨wr.heap.size, 3, none⟩ = some (.slice A' x.f3.length c') ∧ w'.cell? ⟨w.heap.size + 1, 3, none⟩ = some (.slice (some adS) s.a.length s.a.length) ∧ w'.cell? (adS.add j) = some (.int .i64 vI) ∧ Below w0.heap.size w0 w' ∧ Below wr.heap.size wr w')) (by kernel_rfl) ?_ (fun hHeld => ?_)
                · exact ⟨by simp [go_sem], by simp [go_sem], by simp [go_sem], by simp [go_sem], by simp [go_sem, b3, zl], YC.out _, (HBW.out.alloc HBW.out.size _).drew, ((Below.refl _ _).alloc (Nat.le_refl _) _).drew⟩
                refine wpAnyH_take (i := 0) (oi := { dst := some 86, op := Go.Op.load 24 (Go.Operand.tmp 9), type := 24, pos := "term.go:129", after := #[], guard := none }) (v := ?_) rfl (by kernel_rfl) (by kernel_rfl) (by kernel_rfl) (fun _ _ _ h => h) (Or.inl ⟨by rfl, ?_⟩) (by assumption) ?_
                rotate_left 1
                · intro w_ hSw; (try dsimp only at hSw); go_simp; all_goals (with_reducible rfl)
                focus try simp only [Act.put, List.setIfInBounds_toArray, List.set_cons_zero, List.set_cons_succ]
                refine wpAnyH_take (i := 1) (oi := { dst := some 87, op := Go.Op.move (Go.Operand.tmp 1), type := 65, pos := "term.go:129", after := #[], guard := none }) (v := ?_) rfl (by kernel_rfl) (by kernel_rfl) (by kernel_rfl) (fun _ _ _ h => h) (Or.inl ⟨by rfl, ?_⟩) (by assumption) ?_
                rotate_left 1
                · intro w_ hSw; (try dsimp only at hSw); go_simp; all_goals (with_reducible rfl)
                focus try simp only [Act.put, List.setIfInBounds_toArray, List.set_cons_zero, List.set_cons_succ]
                refine wpAnyH_take (i := 2) (oi := { dst := some 88, op := Go.Op.fieldAddr 61 (Go.Operand.tmp 7) 3, type := 0, pos := "term.go:129", after := #[], guard := none }) (v := ?_) rfl (by kernel_rfl) (by kernel_rfl) (by kernel_rfl) (fun _ _ _ h => h) (Or.inl ⟨by rfl, ?_⟩) (by assumption) ?_
                rotate_left 1
                · intro w_ hSw; (try dsimp only at hSw); go_simp; all_goals (with_reducible rfl)
                focus try simp only [Act.put, List.setIfInBounds_toArray, List.set_cons_zero, List.set_cons_succ]
                refine wpAnyH_take (i := 3) (oi := { dst := some 89, op := Go.Op.load 32 (Go.Operand.tmp 88), type := 32, pos := "term.go:129", after := #[{ on := 2, ground := Go.Ground.data }], guard := none }) (v := ?_) rfl (by kernel_rfl) (by kernel_rfl) (by kernel_rfl) (fun _ _ _ h => h) (Or.inl ⟨by rfl, ?_⟩) (by assumption) ?_
                rotate_left 1
                · intro w_ hSw; (try dsimp only at hSw); go_simp; all_goals (with_reducible rfl)
                focus try simp only [Act.put, List.setIfInBounds_toArray, List.set_cons_zero, List.set_cons_succ]
                refine wpAnyH_take (i := 4) (oi := { dst := some 90, op := Go.Op.move (Go.Operand.tmp 8), type := 3, pos := "term.go:129", after := #[], guard := none }) (v := ?_) rfl (by kernel_rfl) (by kernel_rfl) (by kernel_rfl) (fun _ _ _ h => h) (Or.inl ⟨by rfl, ?_⟩) (by assumption) ?_
                rotate_left 1
                · intro w_ hSw; (try dsimp only at hSw); go_simp; all_goals (with_reducible rfl)
                focus try simp only [Act.put, List.setIfInBounds_toArray, List.set_cons_zero, List.set_cons_succ]
                refine wpAnyH_take (i := 5) (oi := { dst := some 91, op := Go.Op.indexAddr 32 (Go.Operand.tmp 89) (Go.Operand.tmp 90), type := 0, pos := "term.go:129", after := #[{ on := 3, ground := Go.Ground.data }, { on := 4, ground := Go.Ground.data }], guard := none }) (v := ?_) rfl (by kernel_rfl) (by kernel_rfl) (by kernel_rfl) (fun _ _ _ h => h) (Or.inl ⟨by rfl, ?_⟩) (by assumption) ?_
                rotate_left 1
                · intro w_ hSw; (try dsimp only at hSw); go_simp; all_goals (with_reducible rfl)
                focus try simp only [Act.put, List.setIfInBounds_toArray, List.set_cons_zero, List.set_cons_succ]
                refine wpAnyH_take (i := 6) (oi := { dst := some 92, op := Go.Op.load 3 (Go.Operand.tmp 91), type := 3, pos := "term.go:129", after := #[{ on := 5, ground := Go.Ground.data }], guard := none }) (v := ?_) rfl (by kernel_rfl) (by kernel_rfl) (by kernel_rfl) (fun _ _ _ h => h) (Or.inl ⟨by rfl, ?_⟩) (by assumption) ?_
                rotate_left 1
                · intro w_ hSw; (try dsimp only at hSw); go_simp; all_goals (with_reducible rfl)
                focus try simp only [Act.put, List.setIfInBounds_toArray, List.set_cons_zero, List.set_cons_succ]
                refine wpAnyH_ready (rs := [7]) (by kernel_rfl) (by simp) ?_
                refine AllReadyH.cons (o := { dst := some 93, op := Go.Op.call { callee := Go.Callee.value (Go.Operand.func 39), args := #[Go.Operand.tmp 86, Go.Operand.tmp 87, Go.Operand.tmp 92], argTypes := #[24, 65, 3] }, type := 4, pos := "term.go:129", after := #[{ on := 0, ground := Go.Ground.data }, { on := 1, ground := Go.Ground.data }, { on := 6, ground := Go.Ground.data }], guard := none }) rfl (fun K hK => ?_) (AllReadyH.nil)
                focus go_simp
                focus (refine (HIH.out x hxn A' c' bt vI w0 _ HCx.out l' ?hb HT.out).mono ?_; (case hb => exact (HBW.out.alloc HBW.out.size _).drew); rintro e w2 ⟨rfl, hb2⟩)
                focus try simp only []
                refine hK.out _ _ ?_ (fun hHeld => ?_)
                · exact ⟨kcell hb2 hHeld.1, kcell hb2 hHeld.2.1, kcell hb2 hHeld.2.2.1, kcell hb2 hHeld.2.2.2.1, kcell hb2 hHeld.2.2.2.2.1, kcell hb2 hHeld.2.2.2.2.2.1, hHeld.2.2.2.2.2.2.1.trans (hb2.mono hHeld.2.2.2.2.2.2.1.size), hHeld.2.2.2.2.2.2.2.trans (hb2.mono hHeld.2.2.2.2.2.2.2.size)⟩
                focus clear hK K
                focus try simp only [Act.put, List.setIfInBounds_toArray, List.set_cons_zero, List.set_cons_succ]
                refine wpAnyH_take (i := 8) (oi := { dst := some 94, op := Go.Op.unOp Go.UnOp.not 4 (Go.Operand.tmp 93), type := 4, pos := "term.go:129", after := #[{ on := 7, ground := Go.Ground.data }], guard := none }) (v := ?_) rfl (by kernel_rfl) (by kernel_rfl) (by kernel_rfl) (fun _ _ _ h => h) (Or.inl ⟨by rfl, ?_⟩) (by assumption) ?_
                rotate_left 1
                · intro w_ hSw; (try dsimp only at hSw); go_simp; all_goals (with_reducible rfl)
                focus try simp only [Act.put, List.setIfInBounds_toArray, List.set_cons_zero, List.set_cons_succ]
                refine wpAnyH_done (by kernel_rfl) ?_ _
                rotate_left 1
                have hw2 := hHeld.2.2.2.2.2.2.2
                clear hHeld
                have HW2 := Lib.hid hw2
                clear hw2
                cases hrx : rightT x vI with
                | false =>
                  have hl2 := HL.out
                  rw [hrx, Bool.false_and] at hl2
                  have HL2 := Lib.hid hl2
                  clear hl2 HL
                  go_wp2
                  exact bodyPost_ret (v := .bool false) (by simp [results, Tryd.results39, go_sem]) rfl ⟨by rw [HR2.out, HL2.out], (HBC.out.trans (HBR.out.mono HBC.out.size)).trans (HW2.out.mono (Nat.le_trans HBC.out.size HBR.out.size))⟩
                | true =>
                  have hl2 := HL.out
                  rw [hrx, Bool.true_and] at hl2
                  have HL2 := Lib.hid hl2
                  clear hl2 HL
                  have hj9 : j + 1 < 9223372036854775808 := by clear p1 p0; omega
                  have ew : wrap64 ((j : Int) + 1) = ((j + 1 : Nat) : Int) := wrapj hj9
                  have EW := Lib.hid ew
                  clear ew
                  go_wp2
                  refine ⟨?_, ?_⟩
                  · refine ⟨_, _, _, _, _, _, _, _, _, _, _, _, _, _, _, _, _, _, _, _, ?_, rfl⟩
                    exact ⟨j + 1, hjl, by first | rfl | rw [EW.out], HL2.out, HBR.out.trans (HW2.out.mono HBR.out.size)⟩
                  · first
                    | exact Nat.sub_lt_sub_left hjl (Nat.lt_succ_self _)
                    | (simp only [EW.out, List.getD_toArray, List.getD_cons_succ, List.getD_cons_zero, intOf, Int.toNat_natCast]; exact Nat.sub_lt_sub_left hjl (Nat.lt_succ_self _))
            · have hjj : j = t.f3.length := by omega
              subst hjj
              rw [List.drop_length, rightL] at hL
              go_wp2
              exact bodyPost_ret (v := .bool true) (by simp [results, Tryd.results39, go_sem]) rfl ⟨by rw [HR2.out, hL], HBC.out.trans (hbr.mono HBC.out.size)⟩
end Go.Proofs.YthckboogibhjaaaDoor.Trm
