/- ashlarlaw07.CnfTwice: its walk. -/
import Derived.Test.YthckboogibhjaaaDoorTrmTw
namespace Go.Proofs.YthckboogibhjaaaDoor.Trm
set_option linter.unusedVariables false
set_option linter.unusedSimpArgs false
open Go.RowKit Go.Proofs.YthckboogibhjaaaDoorW Go.Proofs.YthckboogibhjaaaDoorW.PrintWords Go.Proofs.YthckboogibhjaaaDoorW.PrintMore

theorem tw_wrap {x : Int} (h1 : -1000000 ≤ x) (h2 : x ≤ 1000000) : wrap64 x = x := by unfold wrap64; omega

theorem tw_facts (n k : Int) (al p p1 mm : Nat) (h1 : k = al + (2 * (n - al) + 1)) (h2 : (al : Int) ≤ n) (h3 : n ≤ 5000) (h4 : al ≤ 2000) (h5 : p ≤ 10000) (hp : p1 = p + 1) (hm : mm = 2 * p + 4) :
    ∃ y q r R : Int, wrap64 (k - (al : Int)) = y ∧ wrap64 (n - (al : Int)) = q ∧ wrap64 (2 * q) = r ∧ wrap64 (r + 1) = y ∧ wrap64 ((p1 : Int) - 1) = p ∧ wrap64 (2 * (p : Int)) = R ∧ wrap64 (R + 4) = mm :=
  ⟨k - al, n - al, 2 * (n - al), 2 * p, tw_wrap (by omega) (by omega), tw_wrap (by omega) (by omega), tw_wrap (by omega) (by omega), (tw_wrap (by omega) (by omega)).trans (by omega), (tw_wrap (by omega) (by omega)).trans (by omega), tw_wrap (by omega) (by omega), (tw_wrap (by omega) (by omega)).trans (by omega)⟩
theorem tw_last (p mm : Nat) (h5 : p ≤ 10000) (hm : mm = 2 * p + 4) : wrap64 ((mm : Int) - 1) = ((2 * p + 3 : Nat) : Int) := (tw_wrap (by omega) (by omega)).trans (by omega)

set_option maxHeartbeats 16000000 in
set_option maxRecDepth 100000 in
theorem CnfTwice_any (t : S24) (A : Option Addr) (c : Nat) (w : World) (hC : Kd.C k24 w A t.f3.length t.f3) (hc : t.f3.length ≤ c) :
    Calls Tryd.prog 7 #[.agg #[.int .i64 t.f0, .string t.f1, .int .i64 t.f2, .slice A t.f3.length c]] w fun e w' => e = .returned (.bool true) ∧ Below w.heap.size w w' := by
  let O : Obj := .cells #[.int .i64 t.f0, .string t.f1, .int .i64 t.f2, .slice A t.f3.length c] 24
  have HC := Lib.hid hC
  have B1 := below_alloc (Below.refl w.heap.size w) O
  have LAW := Lib.hid (twice_law t)
  have OK := Lib.hid (clauses_ok (t := t))
  have k1 := blk_new w O
  have K1 := Lib.hid k1
  have HB1 := Lib.hid B1
  clear hC B1 k1
  obtain ⟨cl1, at1, n1, e1, h1⟩ : ∃ a b c d, clausesT t = (a, b, c, d) := ⟨_, _, _, _, rfl⟩
  have H1 := Lib.hid h1
  have he0 : (clausesT t).2.2.2 = e1 := by rw [h1]
  have HE0 := Lib.hid he0
  clear h1 he0
  go_enter Tryd.func7, Tryd.ntmps7
  go_wp2_with fail
  refine (shown_any _).mono ?_
  rintro e w1 ⟨rfl, hb1⟩
  have HB2 := Lib.hid (HB1.out.trans (hb1.mono HB1.out.size))
  have k2 := blk_below K1.out hb1
  have p0 : w1.cell? ⟨w.heap.size, 0, none⟩ = some (.int .i64 t.f0) := (blk_cell k2 0).trans rfl
  have p1 : w1.cell? ⟨w.heap.size, 1, none⟩ = some (.string t.f1) := (blk_cell k2 1).trans rfl
  have p2 : w1.cell? ⟨w.heap.size, 2, none⟩ = some (.int .i64 t.f2) := (blk_cell k2 2).trans rfl
  have p3 : w1.cell? ⟨w.heap.size, 3, none⟩ = some (.slice A t.f3.length c) := (blk_cell k2 3).trans rfl
  have K2 := Lib.hid k2
  clear hb1 k2 K1 HB1
  go_wp2_with fail
  refine (Clauses_of t A c w1 w1 cl1 at1 n1 e1 H1.out (Kd.C_below HC.out HB2.out) hc).mono ?_
  rintro e w2 ⟨A0, A1, c0, c1, rfl, hc0, q1, hc1, qa, hb2⟩
  have Q1 := Lib.hid q1
  have QA := Lib.hid qa
  have HB3 := Lib.hid (HB2.out.trans (hb2.mono HB2.out.size))
  have k2 := blk_below K2.out hb2
  clear p0 p1 p2 p3 q1 qa hb2 HB2 K2
  by_cases he1 : e1 = 0
  · obtain ⟨hs0, hs4, -⟩ := OK.out (HE0.out.trans he1)
    obtain ⟨hsz, hdp, hrt⟩ := sort_small hs0
    have hfine := fine_small t (by omega)
    obtain ⟨kS, hkS⟩ := (Size_ev t hfine).rounds
    obtain ⟨kD, hkD⟩ := (Deep_ev t hfine).rounds
    have CS := Lib.hid (fun (W : World) (h : Kd.C k24 W A t.f3.length t.f3) => ashlarref03_Size.calls kS t.f0 t.f1 t.f2 A c t.f3 _ W h hc hkS)
    have CD := Lib.hid (fun (W : World) (h : Kd.C k24 W A t.f3.length t.f3) => ashlarref03_Deep.calls kD t.f0 t.f1 t.f2 A c t.f3 _ W h hc hkD)
    have HC3 := Lib.hid (Kd.C_below HC.out HB3.out)
    have p0 : w2.cell? ⟨w.heap.size, 0, none⟩ = some (.int .i64 t.f0) := (blk_cell k2 0).trans rfl
    have p1 : w2.cell? ⟨w.heap.size, 1, none⟩ = some (.string t.f1) := (blk_cell k2 1).trans rfl
    have p2 : w2.cell? ⟨w.heap.size, 2, none⟩ = some (.int .i64 t.f2) := (blk_cell k2 2).trans rfl
    have p3 : w2.cell? ⟨w.heap.size, 3, none⟩ = some (.slice A t.f3.length c) := (blk_cell k2 3).trans rfl
    have K3 := Lib.hid k2
    have LAW2 := Lib.hid (LAW.out (HE0.out.trans he1))
    clear hkS hkD k2 LAW OK HE0 hfine hrt hs0 hs4
    subst he1
    obtain ⟨rS, hrS⟩ : ∃ r : Int, r = ((min (tsize t) 2001 : Nat) : Int) := ⟨_, rfl⟩
    obtain ⟨rD, hrD⟩ : ∃ r : Int, r = ((min (tdeep t) 101 : Nat) : Int) := ⟨_, rfl⟩
    rw [← hrS] at CS
    rw [← hrD] at CD
    by_cases hz : tsize t ≤ 900
    · have hz1 : (rS > 900) = False := eq_false (by omega)
      have hz2 : (900 < rS) = False := eq_false (by omega)
      by_cases hd : tdeep t ≤ 90
      · have hd1 : (rD > 90) = False := eq_false (by omega)
        have hd2 : (90 < rD) = False := eq_false (by omega)
        have LAW3 := Lib.hid (LAW2.out hz hd)
        clear LAW2 hrS hrD hz hd
        go_wp2_with (first | (go_at_call 19; refine (CS.out _ HC3.out).mono ?_; rintro e w4 ⟨rfl, hb4⟩; have k4 := blk_below K3.out hb4; clear p0 p1 p2 p3; have p0 : w4.cell? ⟨w.heap.size, 0, none⟩ = some (.int .i64 t.f0) := (blk_cell k4 0).trans rfl; have p1 : w4.cell? ⟨w.heap.size, 1, none⟩ = some (.string t.f1) := (blk_cell k4 1).trans rfl; have p2 : w4.cell? ⟨w.heap.size, 2, none⟩ = some (.int .i64 t.f2) := (blk_cell k4 2).trans rfl; have p3 : w4.cell? ⟨w.heap.size, 3, none⟩ = some (.slice A t.f3.length c) := (blk_cell k4 3).trans rfl; have K4 := Lib.hid k4; have HB4 := Lib.hid hb4; clear k4 hb4) | (go_at_call 20; refine (CD.out _ (Kd.C_below HC3.out HB4.out)).mono ?_; rintro e w5 ⟨rfl, hb5⟩; have k5 := blk_below K4.out hb5; clear p0 p1 p2 p3; have p0 : w5.cell? ⟨w.heap.size, 0, none⟩ = some (.int .i64 t.f0) := (blk_cell k5 0).trans rfl; have p1 : w5.cell? ⟨w.heap.size, 1, none⟩ = some (.string t.f1) := (blk_cell k5 1).trans rfl; have p2 : w5.cell? ⟨w.heap.size, 2, none⟩ = some (.int .i64 t.f2) := (blk_cell k5 2).trans rfl; have p3 : w5.cell? ⟨w.heap.size, 3, none⟩ = some (.slice A t.f3.length c) := (blk_cell k5 3).trans rfl; have K5 := Lib.hid k5; have HB5 := Lib.hid (HB4.out.trans (hb5.mono HB4.out.size)); clear k5 hb5))
        obtain ⟨cl, c2, ats, n, L, k, g1, g2, g3, g4, g5, g6, g7, g8, g9, g10⟩ := LAW3.out
        have g11 := H1.out.symm.trans g1
        simp only [Prod.mk.injEq] at g11
        obtain ⟨rfl, rfl, rfl, -⟩ := g11
        have hb45 := HB5.out
        have b6 := below_alloc (Below.refl w5.heap.size w5) (.cells #[.int .i64 t.f0, .string t.f1, .int .i64 t.f2, .slice A t.f3.length c, .int .i64 t.f0, .string t.f1, .int .i64 t.f2, .slice A t.f3.length c] 24)
        have hC6 := Kd.C_below (Kd.C_below HC3.out hb45) b6
        have hrow := row_T2 (blk_new w5 (.cells #[.int .i64 t.f0, .string t.f1, .int .i64 t.f2, .slice A t.f3.length c, .int .i64 t.f0, .string t.f1, .int .i64 t.f2, .slice A t.f3.length c] 24)) (k24_mk _ t hc hC6) (k24_mk _ t hc hC6)
        refine (Clauses_of (andT t) _ 2 w2 _ _ _ _ _ g2 hrow (Nat.le_refl _)).mono ?_
        rintro e w6 ⟨A2, A3, d2, d3, rfl, hdd2, q2, hdd3, qb, hb6⟩
        have hb56 := b6.trans (hb6.mono b6.size)
        have hb26 := hb45.trans (hb56.mono hb45.size)
        have Q2 := Lib.hid q2
        have QB := Lib.hid qb
        have Q3 := Lib.hid (Kd.C_below Q1.out hb26)
        have QC := Lib.hid (Kd.C_below QA.out hb26)
        have HB6 := Lib.hid (HB3.out.trans (hb26.mono HB3.out.size))
        have G10 := Lib.hid g10
        clear q2 qb hb6 hb56 hb26 hb45 b6 hC6 hrow p0 p1 p2 p3 Q1 QA HB3 HB4 HB5 HC3 LAW3 H1 g1 g2 CS CD K3 K4 K5 g10
        obtain ⟨kk, hkk⟩ := same_refl cl (by omega) g9
        obtain ⟨ad, al, dl, rfl, -, -, T1⟩ := last_cell Q3.out
        obtain ⟨am, bl, dm, rfl, s3, s4, T2⟩ := last_cell (cls := cl ++ c2) Q2.out
        have el1 : (cl ++ [[L]]).length = cl.length + 1 := by simp
        have el2 : ((cl ++ c2) ++ [[k]]).length = 2 * cl.length + 4 := by simp; omega
        have el3 : (cl ++ c2).length = 2 * cl.length + 3 := by simp; omega
        have T3 : Kd.C (Kd.slice 3 (Kd.int .i64)) w6 (some am) cl.length cl := by
          have hT := Kd.C_take T2 (m := cl.length) (by simp)
          rw [List.take_left' rfl] at hT
          exact hT
        rw [el1] at hc0
        rw [el2] at hdd2
        rw [el3] at s3
        rw [el1, el2]
        have T1 := Lib.hid T1
        have T3 := Lib.hid T3
        have HKK := Lib.hid hkk
        clear el1 el2 el3 Q3 Q2 g9 T2 hkk g3 hz1 hz2 hd1 hd2 hsz hdp
        have hcl := cl.length.le_refl
        generalize hp : cl.length = p at *
        obtain ⟨p1, hp1⟩ : ∃ p1, p1 = p + 1 := ⟨_, rfl⟩
        obtain ⟨mm, hmm⟩ : ∃ mm, mm = 2 * p + 4 := ⟨_, rfl⟩
        obtain ⟨y, q, r, R, ew1, ew2, ew3, ew4, ew5, ew6, ew7⟩ := tw_facts n1 k at1.length p p1 mm g4 g5 g6 g7 g8 hp1 hmm
        have EL := Lib.hid (tw_last p mm g8 hmm)
        rw [← hp1] at hc0
        rw [← hmm] at hdd2
        rw [← hp1, ← hmm]
        have HP1 := Lib.hid hp1
        have HMM := Lib.hid hmm
        have G8 := Lib.hid g8
        clear g4 g5 g6 g7 g8 hcl hp1 hmm
        go_wp2_with fail
        go_loopw [12] (fun v wr => ∃ j : Nat, j ≤ at1.length ∧ v = .int .i64 j ∧ Below w6.heap.size w6 wr) (fun v _ => at1.length - (intOf v).toNat)
        case atStart => exact ⟨0, Nat.zero_le _, rfl, Below.refl _ _⟩
        case round =>
          obtain ⟨j, hj, rfl, hbr⟩ := hrel
          by_cases hjl : j < at1.length
          · obtain ⟨xd, A', c', ex, x0, x1, x2, x3, lx, Cx⟩ := el_T (Kd.C_below QC.out hbr) hjl
            obtain ⟨yd, B', d', ey, y0, y1, y2, y3, ly, Cy⟩ := el_T (Kd.C_below QB.out hbr) hjl
            have hx := G10.out at1[j] (List.getElem_mem hjl)
            generalize at1[j] = x at *
            subst ex ey
            obtain ⟨kx, hkx⟩ := (Same_ev x x hx.2 hx.2).rounds
            rw [hx.1] at hkx
            have SM := Lib.hid (fun (W : World) (h : Kd.C k24 W A' x.f3.length x.f3) (h' : Kd.C k24 W B' x.f3.length x.f3) => ashlarref03_Same.calls kx x.f0 x.f1 x.f2 A' c' x.f3 x.f0 x.f1 x.f2 B' d' x.f3 true W h lx h' ly hkx)
            have CX := Lib.hid Cx
            have CY := Lib.hid Cy
            have HBR := Lib.hid hbr
            have hjx : ((j : Int) < (at1.length : Int)) = True := eq_true (by omega)
            have hj0 : (0 ≤ (j : Int)) = True := eq_true (by omega)
            have EW := Lib.hid (wrapj (show j + 1 < 9223372036854775808 by have := Kd.C_max QC.out; omega))
            clear hbr Cx Cy hkx hx ew1 ew2 ew3 ew4 ew5 ew6 ew7 s3 s4
            go_wp2_with fail
            refine wp_region_held_drew (S := (fun w' => w'.cell? (xd.add (j * 4)) = some (.int .i64 x.f0) ∧ w'.cell? ⟨(xd.add (j * 4)).block, (xd.add (j * 4)).off + 1, none⟩ = some (.string x.f1) ∧ w'.cell? ⟨(xd.add (j * 4)).block, (xd.add (j * 4)).off + 2, none⟩ = some (.int .i64 x.f2) ∧ w'.cell? ⟨(xd.add (j * 4)).block, (xd.add (j * 4)).off + 3, none⟩ = some (.slice A' x.f3.length c') ∧ w'.cell? (yd.add (j * 4)) = some (.int .i64 x.f0) ∧ w'.cell? ⟨(yd.add (j * 4)).block, (yd.add (j * 4)).off + 1, none⟩ = some (.string x.f1) ∧ w'.cell? ⟨(yd.add (j * 4)).block, (yd.add (j * 4)).off + 2, none⟩ = some (.int .i64 x.f2) ∧ w'.cell? ⟨(yd.add (j * 4)).block, (yd.add (j * 4)).off + 3, none⟩ = some (.slice B' x.f3.length d'))) (by kernel_rfl) ?_ (fun hHeld => ?_)
            · first | exact ⟨x0, x1, x2, x3, y0, y1, y2, y3⟩ | exact ⟨z0, z1, z2, z3, z4, z5, z6, z7⟩
            refine wpAnyH_take (i := 0) (oi := { dst := some 82, op := Go.Op.move (Go.Operand.tmp 5), type := 22, pos := "more.go:33", after := #[], guard := none }) (v := ?_) rfl (by kernel_rfl) (by kernel_rfl) (by kernel_rfl) (fun _ _ _ h => h) (Or.inl ⟨by rfl, ?_⟩) (by assumption) ?_
            rotate_left 1
            · intro w_ hSw; (try dsimp only at hSw); go_simp; all_goals (with_reducible rfl)
            focus try simp only [Act.put, List.setIfInBounds_toArray, List.set_cons_zero, List.set_cons_succ]
            refine wpAnyH_take (i := 1) (oi := { dst := some 83, op := Go.Op.move (Go.Operand.tmp 12), type := 3, pos := "more.go:33", after := #[], guard := none }) (v := ?_) rfl (by kernel_rfl) (by kernel_rfl) (by kernel_rfl) (fun _ _ _ h => h) (Or.inl ⟨by rfl, ?_⟩) (by assumption) ?_
            rotate_left 1
            · intro w_ hSw; (try dsimp only at hSw); go_simp; all_goals (with_reducible rfl)
            focus try simp only [Act.put, List.setIfInBounds_toArray, List.set_cons_zero, List.set_cons_succ]
            refine wpAnyH_take (i := 2) (oi := { dst := some 84, op := Go.Op.indexAddr 22 (Go.Operand.tmp 82) (Go.Operand.tmp 83), type := 0, pos := "more.go:33", after := #[{ on := 0, ground := Go.Ground.data }, { on := 1, ground := Go.Ground.data }], guard := none }) (v := ?_) rfl (by kernel_rfl) (by kernel_rfl) (by kernel_rfl) (fun _ _ _ h => h) (Or.inl ⟨by rfl, ?_⟩) (by assumption) ?_
            rotate_left 1
            · intro w_ hSw; (try dsimp only at hSw); go_simp; all_goals (with_reducible rfl)
            focus try simp only [Act.put, List.setIfInBounds_toArray, List.set_cons_zero, List.set_cons_succ]
            refine wpAnyH_take (i := 3) (oi := { dst := some 85, op := Go.Op.load 24 (Go.Operand.tmp 84), type := 24, pos := "more.go:33", after := #[{ on := 2, ground := Go.Ground.data }], guard := none }) (v := ?_) rfl (by kernel_rfl) (by kernel_rfl) (by kernel_rfl) (fun _ _ _ h => h) (Or.inl ⟨by rfl, ?_⟩) (by assumption) ?_
            rotate_left 1
            · intro w_ hSw; (try dsimp only at hSw); go_simp; all_goals (with_reducible rfl)
            focus try simp only [Act.put, List.setIfInBounds_toArray, List.set_cons_zero, List.set_cons_succ]
            refine wpAnyH_take (i := 4) (oi := { dst := some 86, op := Go.Op.move (Go.Operand.tmp 9), type := 22, pos := "more.go:33", after := #[], guard := none }) (v := ?_) rfl (by kernel_rfl) (by kernel_rfl) (by kernel_rfl) (fun _ _ _ h => h) (Or.inl ⟨by rfl, ?_⟩) (by assumption) ?_
            rotate_left 1
            · intro w_ hSw; (try dsimp only at hSw); go_simp; all_goals (with_reducible rfl)
            focus try simp only [Act.put, List.setIfInBounds_toArray, List.set_cons_zero, List.set_cons_succ]
            refine wpAnyH_take (i := 5) (oi := { dst := some 87, op := Go.Op.move (Go.Operand.tmp 12), type := 3, pos := "more.go:33", after := #[], guard := none }) (v := ?_) rfl (by kernel_rfl) (by kernel_rfl) (by kernel_rfl) (fun _ _ _ h => h) (Or.inl ⟨by rfl, ?_⟩) (by assumption) ?_
            rotate_left 1
            · intro w_ hSw; (try dsimp only at hSw); go_simp; all_goals (with_reducible rfl)
            focus try simp only [Act.put, List.setIfInBounds_toArray, List.set_cons_zero, List.set_cons_succ]
            refine wpAnyH_take (i := 6) (oi := { dst := some 88, op := Go.Op.indexAddr 22 (Go.Operand.tmp 86) (Go.Operand.tmp 87), type := 0, pos := "more.go:33", after := #[{ on := 4, ground := Go.Ground.data }, { on := 5, ground := Go.Ground.data }], guard := none }) (v := ?_) rfl (by kernel_rfl) (by kernel_rfl) (by kernel_rfl) (fun _ _ _ h => h) (Or.inl ⟨by rfl, ?_⟩) (by assumption) ?_
            rotate_left 1
            · intro w_ hSw; (try dsimp only at hSw); go_simp; all_goals (with_reducible rfl)
            focus try simp only [Act.put, List.setIfInBounds_toArray, List.set_cons_zero, List.set_cons_succ]
            refine wpAnyH_take (i := 7) (oi := { dst := some 89, op := Go.Op.load 24 (Go.Operand.tmp 88), type := 24, pos := "more.go:33", after := #[{ on := 6, ground := Go.Ground.data }], guard := none }) (v := ?_) rfl (by kernel_rfl) (by kernel_rfl) (by kernel_rfl) (fun _ _ _ h => h) (Or.inl ⟨by rfl, ?_⟩) (by assumption) ?_
            rotate_left 1
            · intro w_ hSw; (try dsimp only at hSw); go_simp; all_goals (with_reducible rfl)
            focus try simp only [Act.put, List.setIfInBounds_toArray, List.set_cons_zero, List.set_cons_succ]
            refine wpAnyH_ready (rs := [8]) (by kernel_rfl) (by simp) ?_
            refine AllReadyH.cons (o := { dst := some 90, op := Go.Op.call { callee := Go.Callee.value (Go.Operand.func 13), args := #[Go.Operand.tmp 85, Go.Operand.tmp 89], argTypes := #[24, 24] }, type := 4, pos := "more.go:33", after := #[{ on := 3, ground := Go.Ground.data }, { on := 7, ground := Go.Ground.data }], guard := none }) rfl (fun K hK => ?_) (AllReadyH.nil)
            focus go_simp
            focus (refine (SM.out _ (Kd.C_drew CX.out) (Kd.C_drew CY.out)).mono ?_; rintro e w9 ⟨rfl, hb9⟩; have z0 := (hb9.cell (World.block_lt_of_cell? _ _ x0)).trans x0; have z1 := (hb9.cell (World.block_lt_of_cell? _ _ x1)).trans x1; have z2 := (hb9.cell (World.block_lt_of_cell? _ _ x2)).trans x2; have z3 := (hb9.cell (World.block_lt_of_cell? _ _ x3)).trans x3; have z4 := (hb9.cell (World.block_lt_of_cell? _ _ y0)).trans y0; have z5 := (hb9.cell (World.block_lt_of_cell? _ _ y1)).trans y1; have z6 := (hb9.cell (World.block_lt_of_cell? _ _ y2)).trans y2; have z7 := (hb9.cell (World.block_lt_of_cell? _ _ y3)).trans y3; have HB9 := Lib.hid hb9)
            focus try simp only []
            refine hK.out _ _ ?_ (fun hHeld => ?_)
            · first | exact ⟨x0, x1, x2, x3, y0, y1, y2, y3⟩ | exact ⟨z0, z1, z2, z3, z4, z5, z6, z7⟩
            focus clear hK K
            focus try simp only [Act.put, List.setIfInBounds_toArray, List.set_cons_zero, List.set_cons_succ]
            refine wpAnyH_take (i := 9) (oi := { dst := some 91, op := Go.Op.unOp Go.UnOp.not 4 (Go.Operand.tmp 90), type := 4, pos := "more.go:33", after := #[{ on := 8, ground := Go.Ground.data }], guard := none }) (v := ?_) rfl (by kernel_rfl) (by kernel_rfl) (by kernel_rfl) (fun _ _ _ h => h) (Or.inl ⟨by rfl, ?_⟩) (by assumption) ?_
            rotate_left 1
            · intro w_ hSw; (try dsimp only at hSw); go_simp; all_goals (with_reducible rfl)
            focus try simp only [Act.put, List.setIfInBounds_toArray, List.set_cons_zero, List.set_cons_succ]
            refine wpAnyH_done (by kernel_rfl) ?_ _
            rotate_left 1
            all_goals
              clear z0 z1 z2 z3 z4 z5 z6 z7
              go_wp2
              refine ⟨⟨j + 1, hjl, congrArg (Value.int .i64) EW.out, HBR.out.trans ((below_drew1 (Below.refl _ _)).trans HB9.out |>.mono HBR.out.size)⟩, ?_⟩
              rw [EW.out]
              simp only [intOf, Int.toNat_natCast]
              exact meas_lt hjl
          · have hjx : ((j : Int) < (at1.length : Int)) = False := eq_false (by omega)
            obtain ⟨q3, hq3⟩ : ∃ q3, q3 = 2 * p + 3 := ⟨_, rfl⟩
            have el := EL.out
            rw [← hq3] at s3 el
            have r3 := (hbr.cell (World.block_lt_of_cell? _ _ s3)).trans s3
            have r4 := (hbr.cell (World.block_lt_of_cell? _ _ s4)).trans s4
            have C1 := Lib.hid (Kd.C_below T1.out hbr)
            have C3 := Lib.hid (Kd.C_below T3.out hbr)
            have hmm := HMM.out
            have hp1 := HP1.out
            have hx1 : ((q3 : Int) < (mm : Int)) = True := eq_true (by omega)
            have hx0 : (0 ≤ (q3 : Int)) = True := eq_true (by omega)
            have hx2 : (p ≤ c0) = True := eq_true (by omega)
            have hx3 : (p ≤ d2) = True := eq_true (by omega)
            have ew5k : IntKind.i64.wrap ((p1 : Int) - 1) = p := (PrintLast.i64_w _).trans ew5
            have elk : IntKind.i64.wrap ((mm : Int) - 1) = q3 := (PrintLast.i64_w _).trans el
            have hp0 : (0 ≤ (p : Int)) = True := eq_true (Int.natCast_nonneg p)
            have hpc0 : p ≤ c0 := by omega
            have hpd2 : p ≤ d2 := by omega
            have HBR := Lib.hid (HB6.out.trans (hbr.mono HB6.out.size))
            clear hmm hp1 hq3 hbr s3 s4 EL T1 T3 HMM HP1 G8 QC QB ew1 ew2 ew3 ew4 ew6 ew7
            subst hp
            have HS := Lib.hid (fun (W : World) (h0 : Kd.C (Kd.slice 3 (Kd.int .i64)) W (some ad) cl.length cl) (h2 : Kd.C (Kd.slice 3 (Kd.int .i64)) W (some am) cl.length cl) => ashlarlaw07_same.calls kk (some ad) c0 cl (some am) d2 cl true W h0 hpc0 h2 hpd2 HKK.out)
            go_wp2_with fail
            refine wp_region_held_drew (S := (fun w' => w'.cell? (am.add q3) = some (.slice (some bl) 1 dm) ∧ w'.cell? bl = some (.int .i64 k))) (by kernel_rfl) ?_ (fun hHeld => ?_)
            · exact ⟨r3, r4⟩
            refine wpAnyH_take (i := 0) (oi := { dst := some 92, op := Go.Op.move (Go.Operand.tmp 3), type := 4, pos := "more.go:37", after := #[], guard := none }) (v := ?_) rfl (by kernel_rfl) (by kernel_rfl) (by kernel_rfl) (fun _ _ _ h => h) (Or.inl ⟨by rfl, ?_⟩) (by assumption) ?_
            rotate_left 1
            · intro w_ hSw; (try dsimp only at hSw); go_simp; all_goals (with_reducible rfl)
            focus try simp only [Act.put, List.setIfInBounds_toArray, List.set_cons_zero, List.set_cons_succ]
            refine wpAnyH_take (i := 1) (oi := { dst := some 93, op := Go.Op.move (Go.Operand.tmp 92), type := 4, pos := "more.go:37", after := #[{ on := 0, ground := Go.Ground.data }], guard := none }) (v := ?_) rfl (by kernel_rfl) (by kernel_rfl) (by kernel_rfl) (fun _ _ _ h => h) (Or.inl ⟨by rfl, ?_⟩) (by assumption) ?_
            rotate_left 1
            · intro w_ hSw; (try dsimp only at hSw); go_simp; all_goals (with_reducible rfl)
            focus try simp only [Act.put, List.setIfInBounds_toArray, List.set_cons_zero, List.set_cons_succ]
            first | (refine wpAnyH_take (i := 2) (oi := { dst := some 94, op := Go.Op.move (Go.Operand.tmp 4), type := 26, pos := "more.go:37", after := #[{ on := 1, ground := Go.Ground.guard }], guard := some (1, true) }) (v := ?_) rfl (by kernel_rfl) (by kernel_rfl) (by kernel_rfl) (fun _ _ _ h => h) (Or.inl ⟨by rfl, ?_⟩) (by assumption) ?_; rotate_left 1; focus (intro w_ hSw; (try dsimp only at hSw); go_simp; all_goals (with_reducible rfl); done)) | (refine wpAnyH_take (i := 2) (oi := { dst := some 94, op := Go.Op.move (Go.Operand.tmp 4), type := 26, pos := "more.go:37", after := #[{ on := 1, ground := Go.Ground.guard }], guard := some (1, true) }) rfl (by kernel_rfl) (by kernel_rfl) (by kernel_rfl) (fun _ _ _ h => h) (Or.inr ⟨by rfl, rfl⟩) (by assumption) ?_)
            focus try simp only [Act.put, List.setIfInBounds_toArray, List.set_cons_zero, List.set_cons_succ]
            first | (refine wpAnyH_take (i := 3) (oi := { dst := some 95, op := Go.Op.move (Go.Operand.tmp 4), type := 26, pos := "more.go:37", after := #[{ on := 1, ground := Go.Ground.guard }], guard := some (1, true) }) (v := ?_) rfl (by kernel_rfl) (by kernel_rfl) (by kernel_rfl) (fun _ _ _ h => h) (Or.inl ⟨by rfl, ?_⟩) (by assumption) ?_; rotate_left 1; focus (intro w_ hSw; (try dsimp only at hSw); go_simp; all_goals (with_reducible rfl); done)) | (refine wpAnyH_take (i := 3) (oi := { dst := some 95, op := Go.Op.move (Go.Operand.tmp 4), type := 26, pos := "more.go:37", after := #[{ on := 1, ground := Go.Ground.guard }], guard := some (1, true) }) rfl (by kernel_rfl) (by kernel_rfl) (by kernel_rfl) (fun _ _ _ h => h) (Or.inr ⟨by rfl, rfl⟩) (by assumption) ?_)
            focus try simp only [Act.put, List.setIfInBounds_toArray, List.set_cons_zero, List.set_cons_succ]
            first | (refine wpAnyH_take (i := 4) (oi := { dst := some 96, op := Go.Op.call { callee := Go.Callee.builtin Go.Builtin.len, args := #[Go.Operand.tmp 95], argTypes := #[26] }, type := 3, pos := "more.go:37", after := #[{ on := 3, ground := Go.Ground.data }, { on := 1, ground := Go.Ground.guard }], guard := some (1, true) }) (v := ?_) rfl (by kernel_rfl) (by kernel_rfl) (by kernel_rfl) (fun _ _ _ h => h) (Or.inl ⟨by rfl, ?_⟩) (by assumption) ?_; rotate_left 1; focus (intro w_ hSw; (try dsimp only at hSw); go_simp; all_goals (with_reducible rfl); done)) | (refine wpAnyH_take (i := 4) (oi := { dst := some 96, op := Go.Op.call { callee := Go.Callee.builtin Go.Builtin.len, args := #[Go.Operand.tmp 95], argTypes := #[26] }, type := 3, pos := "more.go:37", after := #[{ on := 3, ground := Go.Ground.data }, { on := 1, ground := Go.Ground.guard }], guard := some (1, true) }) rfl (by kernel_rfl) (by kernel_rfl) (by kernel_rfl) (fun _ _ _ h => h) (Or.inr ⟨by rfl, rfl⟩) (by assumption) ?_)
            focus try simp only [Act.put, List.setIfInBounds_toArray, List.set_cons_zero, List.set_cons_succ]
            first | (refine wpAnyH_take (i := 5) (oi := { dst := some 97, op := Go.Op.binOp Go.BinOp.sub 3 (Go.Operand.tmp 96) (Go.Operand.const (Go.Value.int Go.IntKind.i64 1)) 3, type := 3, pos := "more.go:37", after := #[{ on := 4, ground := Go.Ground.data }, { on := 1, ground := Go.Ground.guard }], guard := some (1, true) }) (v := ?_) rfl (by kernel_rfl) (by kernel_rfl) (by kernel_rfl) (fun _ _ _ h => h) (Or.inl ⟨by rfl, ?_⟩) (by assumption) ?_; rotate_left 1; focus (intro w_ hSw; (try dsimp only at hSw); go_simp; all_goals (with_reducible rfl); done)) | (refine wpAnyH_take (i := 5) (oi := { dst := some 97, op := Go.Op.binOp Go.BinOp.sub 3 (Go.Operand.tmp 96) (Go.Operand.const (Go.Value.int Go.IntKind.i64 1)) 3, type := 3, pos := "more.go:37", after := #[{ on := 4, ground := Go.Ground.data }, { on := 1, ground := Go.Ground.guard }], guard := some (1, true) }) rfl (by kernel_rfl) (by kernel_rfl) (by kernel_rfl) (fun _ _ _ h => h) (Or.inr ⟨by rfl, rfl⟩) (by assumption) ?_)
            focus try simp only [Act.put, List.setIfInBounds_toArray, List.set_cons_zero, List.set_cons_succ]
            first | (refine wpAnyH_take (i := 6) (oi := { dst := some 98, op := Go.Op.slice 26 (Go.Operand.tmp 94) none (some (Go.Operand.tmp 97)) none, type := 26, pos := "more.go:37", after := #[{ on := 2, ground := Go.Ground.data }, { on := 5, ground := Go.Ground.data }, { on := 1, ground := Go.Ground.guard }], guard := some (1, true) }) (v := ?_) rfl (by kernel_rfl) (by kernel_rfl) (by kernel_rfl) (fun _ _ _ h => h) (Or.inl ⟨by rfl, ?_⟩) (by assumption) ?_; rotate_left 1; focus (intro w_ hSw; (try dsimp only at hSw); go_simp; all_goals (with_reducible rfl); done)) | (refine wpAnyH_take (i := 6) (oi := { dst := some 98, op := Go.Op.slice 26 (Go.Operand.tmp 94) none (some (Go.Operand.tmp 97)) none, type := 26, pos := "more.go:37", after := #[{ on := 2, ground := Go.Ground.data }, { on := 5, ground := Go.Ground.data }, { on := 1, ground := Go.Ground.guard }], guard := some (1, true) }) rfl (by kernel_rfl) (by kernel_rfl) (by kernel_rfl) (fun _ _ _ h => h) (Or.inr ⟨by rfl, rfl⟩) (by assumption) ?_)
            focus try simp only [Act.put, List.setIfInBounds_toArray, List.set_cons_zero, List.set_cons_succ]
            first | (refine wpAnyH_take (i := 7) (oi := { dst := some 99, op := Go.Op.move (Go.Operand.tmp 8), type := 26, pos := "more.go:37", after := #[{ on := 1, ground := Go.Ground.guard }], guard := some (1, true) }) (v := ?_) rfl (by kernel_rfl) (by kernel_rfl) (by kernel_rfl) (fun _ _ _ h => h) (Or.inl ⟨by rfl, ?_⟩) (by assumption) ?_; rotate_left 1; focus (intro w_ hSw; (try dsimp only at hSw); go_simp; all_goals (with_reducible rfl); done)) | (refine wpAnyH_take (i := 7) (oi := { dst := some 99, op := Go.Op.move (Go.Operand.tmp 8), type := 26, pos := "more.go:37", after := #[{ on := 1, ground := Go.Ground.guard }], guard := some (1, true) }) rfl (by kernel_rfl) (by kernel_rfl) (by kernel_rfl) (fun _ _ _ h => h) (Or.inr ⟨by rfl, rfl⟩) (by assumption) ?_)
            focus try simp only [Act.put, List.setIfInBounds_toArray, List.set_cons_zero, List.set_cons_succ]
            first | (refine wpAnyH_take (i := 8) (oi := { dst := some 100, op := Go.Op.move (Go.Operand.tmp 4), type := 26, pos := "more.go:37", after := #[{ on := 1, ground := Go.Ground.guard }], guard := some (1, true) }) (v := ?_) rfl (by kernel_rfl) (by kernel_rfl) (by kernel_rfl) (fun _ _ _ h => h) (Or.inl ⟨by rfl, ?_⟩) (by assumption) ?_; rotate_left 1; focus (intro w_ hSw; (try dsimp only at hSw); go_simp; all_goals (with_reducible rfl); done)) | (refine wpAnyH_take (i := 8) (oi := { dst := some 100, op := Go.Op.move (Go.Operand.tmp 4), type := 26, pos := "more.go:37", after := #[{ on := 1, ground := Go.Ground.guard }], guard := some (1, true) }) rfl (by kernel_rfl) (by kernel_rfl) (by kernel_rfl) (fun _ _ _ h => h) (Or.inr ⟨by rfl, rfl⟩) (by assumption) ?_)
            focus try simp only [Act.put, List.setIfInBounds_toArray, List.set_cons_zero, List.set_cons_succ]
            first | (refine wpAnyH_take (i := 9) (oi := { dst := some 101, op := Go.Op.call { callee := Go.Callee.builtin Go.Builtin.len, args := #[Go.Operand.tmp 100], argTypes := #[26] }, type := 3, pos := "more.go:37", after := #[{ on := 8, ground := Go.Ground.data }, { on := 1, ground := Go.Ground.guard }], guard := some (1, true) }) (v := ?_) rfl (by kernel_rfl) (by kernel_rfl) (by kernel_rfl) (fun _ _ _ h => h) (Or.inl ⟨by rfl, ?_⟩) (by assumption) ?_; rotate_left 1; focus (intro w_ hSw; (try dsimp only at hSw); go_simp; all_goals (with_reducible rfl); done)) | (refine wpAnyH_take (i := 9) (oi := { dst := some 101, op := Go.Op.call { callee := Go.Callee.builtin Go.Builtin.len, args := #[Go.Operand.tmp 100], argTypes := #[26] }, type := 3, pos := "more.go:37", after := #[{ on := 8, ground := Go.Ground.data }, { on := 1, ground := Go.Ground.guard }], guard := some (1, true) }) rfl (by kernel_rfl) (by kernel_rfl) (by kernel_rfl) (fun _ _ _ h => h) (Or.inr ⟨by rfl, rfl⟩) (by assumption) ?_)
            focus try simp only [Act.put, List.setIfInBounds_toArray, List.set_cons_zero, List.set_cons_succ]
            first | (refine wpAnyH_take (i := 10) (oi := { dst := some 102, op := Go.Op.binOp Go.BinOp.sub 3 (Go.Operand.tmp 101) (Go.Operand.const (Go.Value.int Go.IntKind.i64 1)) 3, type := 3, pos := "more.go:37", after := #[{ on := 9, ground := Go.Ground.data }, { on := 1, ground := Go.Ground.guard }], guard := some (1, true) }) (v := ?_) rfl (by kernel_rfl) (by kernel_rfl) (by kernel_rfl) (fun _ _ _ h => h) (Or.inl ⟨by rfl, ?_⟩) (by assumption) ?_; rotate_left 1; focus (intro w_ hSw; (try dsimp only at hSw); go_simp; all_goals (with_reducible rfl); done)) | (refine wpAnyH_take (i := 10) (oi := { dst := some 102, op := Go.Op.binOp Go.BinOp.sub 3 (Go.Operand.tmp 101) (Go.Operand.const (Go.Value.int Go.IntKind.i64 1)) 3, type := 3, pos := "more.go:37", after := #[{ on := 9, ground := Go.Ground.data }, { on := 1, ground := Go.Ground.guard }], guard := some (1, true) }) rfl (by kernel_rfl) (by kernel_rfl) (by kernel_rfl) (fun _ _ _ h => h) (Or.inr ⟨by rfl, rfl⟩) (by assumption) ?_)
            focus try simp only [Act.put, List.setIfInBounds_toArray, List.set_cons_zero, List.set_cons_succ]
            first | (refine wpAnyH_take (i := 11) (oi := { dst := some 103, op := Go.Op.slice 26 (Go.Operand.tmp 99) none (some (Go.Operand.tmp 102)) none, type := 26, pos := "more.go:37", after := #[{ on := 7, ground := Go.Ground.data }, { on := 10, ground := Go.Ground.data }, { on := 1, ground := Go.Ground.guard }], guard := some (1, true) }) (v := ?_) rfl (by kernel_rfl) (by kernel_rfl) (by kernel_rfl) (fun _ _ _ h => h) (Or.inl ⟨by rfl, ?_⟩) (by assumption) ?_; rotate_left 1; focus (intro w_ hSw; (try dsimp only at hSw); go_simp; all_goals (with_reducible rfl); done)) | (refine wpAnyH_take (i := 11) (oi := { dst := some 103, op := Go.Op.slice 26 (Go.Operand.tmp 99) none (some (Go.Operand.tmp 102)) none, type := 26, pos := "more.go:37", after := #[{ on := 7, ground := Go.Ground.data }, { on := 10, ground := Go.Ground.data }, { on := 1, ground := Go.Ground.guard }], guard := some (1, true) }) rfl (by kernel_rfl) (by kernel_rfl) (by kernel_rfl) (fun _ _ _ h => h) (Or.inr ⟨by rfl, rfl⟩) (by assumption) ?_)
            focus try simp only [Act.put, List.setIfInBounds_toArray, List.set_cons_zero, List.set_cons_succ]
            refine wpAnyH_ready (rs := [12]) (by kernel_rfl) (by simp) ?_
            refine AllReadyH.cons (o := { dst := some 104, op := Go.Op.call { callee := Go.Callee.value (Go.Operand.func 12), args := #[Go.Operand.tmp 98, Go.Operand.tmp 103], argTypes := #[26, 26] }, type := 4, pos := "more.go:37", after := #[{ on := 6, ground := Go.Ground.data }, { on := 11, ground := Go.Ground.data }, { on := 1, ground := Go.Ground.chain }, { on := 1, ground := Go.Ground.guard }], guard := some (1, true) }) rfl (fun K hK => ?_) (AllReadyH.nil)
            focus go_simp
            focus (refine (HS.out _ (Kd.C_drew C1.out) (Kd.C_drew C3.out)).mono ?_; rintro e w9 ⟨rfl, hd⟩; obtain ⟨n9, rfl⟩ := hd.out)
            focus try simp only []
            refine hK.out _ _ ?_ (fun hHeld => ?_)
            · exact ⟨r3, r4⟩
            focus clear hK K
            focus try simp only [Act.put, List.setIfInBounds_toArray, List.set_cons_zero, List.set_cons_succ]
            refine wpAnyH_take (i := 13) (oi := { dst := some 105, op := Go.Op.pick (Go.Operand.tmp 93) (Go.Operand.tmp 104) (Go.Operand.const (Go.Value.bool false)), type := 4, pos := "more.go:37", after := #[{ on := 1, ground := Go.Ground.data }, { on := 12, ground := Go.Ground.data }], guard := none }) (v := ?_) rfl (by kernel_rfl) (by kernel_rfl) (by kernel_rfl) (fun _ _ _ h => h) (Or.inl ⟨by rfl, ?_⟩) (by assumption) ?_
            rotate_left 1
            · intro w_ hSw; (try dsimp only at hSw); go_simp; all_goals (with_reducible rfl)
            focus try simp only [Act.put, List.setIfInBounds_toArray, List.set_cons_zero, List.set_cons_succ]
            refine wpAnyH_take (i := 14) (oi := { dst := some 106, op := Go.Op.move (Go.Operand.tmp 105), type := 4, pos := "more.go:37", after := #[{ on := 13, ground := Go.Ground.data }, { on := 12, ground := Go.Ground.chain }], guard := none }) (v := ?_) rfl (by kernel_rfl) (by kernel_rfl) (by kernel_rfl) (fun _ _ _ h => h) (Or.inl ⟨by rfl, ?_⟩) (by assumption) ?_
            rotate_left 1
            · intro w_ hSw; (try dsimp only at hSw); go_simp; all_goals (with_reducible rfl)
            focus try simp only [Act.put, List.setIfInBounds_toArray, List.set_cons_zero, List.set_cons_succ]
            first | (refine wpAnyH_take (i := 15) (oi := { dst := some 107, op := Go.Op.move (Go.Operand.tmp 8), type := 26, pos := "more.go:37", after := #[{ on := 14, ground := Go.Ground.guard }], guard := some (14, true) }) (v := ?_) rfl (by kernel_rfl) (by kernel_rfl) (by kernel_rfl) (fun _ _ _ h => h) (Or.inl ⟨by rfl, ?_⟩) (by assumption) ?_; rotate_left 1; focus (intro w_ hSw; (try dsimp only at hSw); go_simp; all_goals (with_reducible rfl); done)) | (refine wpAnyH_take (i := 15) (oi := { dst := some 107, op := Go.Op.move (Go.Operand.tmp 8), type := 26, pos := "more.go:37", after := #[{ on := 14, ground := Go.Ground.guard }], guard := some (14, true) }) rfl (by kernel_rfl) (by kernel_rfl) (by kernel_rfl) (fun _ _ _ h => h) (Or.inr ⟨by rfl, rfl⟩) (by assumption) ?_)
            focus try simp only [Act.put, List.setIfInBounds_toArray, List.set_cons_zero, List.set_cons_succ]
            first | (refine wpAnyH_take (i := 16) (oi := { dst := some 108, op := Go.Op.move (Go.Operand.tmp 8), type := 26, pos := "more.go:37", after := #[{ on := 14, ground := Go.Ground.guard }], guard := some (14, true) }) (v := ?_) rfl (by kernel_rfl) (by kernel_rfl) (by kernel_rfl) (fun _ _ _ h => h) (Or.inl ⟨by rfl, ?_⟩) (by assumption) ?_; rotate_left 1; focus (intro w_ hSw; (try dsimp only at hSw); go_simp; all_goals (with_reducible rfl); done)) | (refine wpAnyH_take (i := 16) (oi := { dst := some 108, op := Go.Op.move (Go.Operand.tmp 8), type := 26, pos := "more.go:37", after := #[{ on := 14, ground := Go.Ground.guard }], guard := some (14, true) }) rfl (by kernel_rfl) (by kernel_rfl) (by kernel_rfl) (fun _ _ _ h => h) (Or.inr ⟨by rfl, rfl⟩) (by assumption) ?_)
            focus try simp only [Act.put, List.setIfInBounds_toArray, List.set_cons_zero, List.set_cons_succ]
            first | (refine wpAnyH_take (i := 17) (oi := { dst := some 109, op := Go.Op.call { callee := Go.Callee.builtin Go.Builtin.len, args := #[Go.Operand.tmp 108], argTypes := #[26] }, type := 3, pos := "more.go:37", after := #[{ on := 16, ground := Go.Ground.data }, { on := 14, ground := Go.Ground.guard }], guard := some (14, true) }) (v := ?_) rfl (by kernel_rfl) (by kernel_rfl) (by kernel_rfl) (fun _ _ _ h => h) (Or.inl ⟨by rfl, ?_⟩) (by assumption) ?_; rotate_left 1; focus (intro w_ hSw; (try dsimp only at hSw); go_simp; all_goals (with_reducible rfl); done)) | (refine wpAnyH_take (i := 17) (oi := { dst := some 109, op := Go.Op.call { callee := Go.Callee.builtin Go.Builtin.len, args := #[Go.Operand.tmp 108], argTypes := #[26] }, type := 3, pos := "more.go:37", after := #[{ on := 16, ground := Go.Ground.data }, { on := 14, ground := Go.Ground.guard }], guard := some (14, true) }) rfl (by kernel_rfl) (by kernel_rfl) (by kernel_rfl) (fun _ _ _ h => h) (Or.inr ⟨by rfl, rfl⟩) (by assumption) ?_)
            focus try simp only [Act.put, List.setIfInBounds_toArray, List.set_cons_zero, List.set_cons_succ]
            first | (refine wpAnyH_take (i := 18) (oi := { dst := some 110, op := Go.Op.binOp Go.BinOp.sub 3 (Go.Operand.tmp 109) (Go.Operand.const (Go.Value.int Go.IntKind.i64 1)) 3, type := 3, pos := "more.go:37", after := #[{ on := 17, ground := Go.Ground.data }, { on := 14, ground := Go.Ground.guard }], guard := some (14, true) }) (v := ?_) rfl (by kernel_rfl) (by kernel_rfl) (by kernel_rfl) (fun _ _ _ h => h) (Or.inl ⟨by rfl, ?_⟩) (by assumption) ?_; rotate_left 1; focus (intro w_ hSw; (try dsimp only at hSw); go_simp; all_goals (with_reducible rfl); done)) | (refine wpAnyH_take (i := 18) (oi := { dst := some 110, op := Go.Op.binOp Go.BinOp.sub 3 (Go.Operand.tmp 109) (Go.Operand.const (Go.Value.int Go.IntKind.i64 1)) 3, type := 3, pos := "more.go:37", after := #[{ on := 17, ground := Go.Ground.data }, { on := 14, ground := Go.Ground.guard }], guard := some (14, true) }) rfl (by kernel_rfl) (by kernel_rfl) (by kernel_rfl) (fun _ _ _ h => h) (Or.inr ⟨by rfl, rfl⟩) (by assumption) ?_)
            focus try simp only [Act.put, List.setIfInBounds_toArray, List.set_cons_zero, List.set_cons_succ]
            first | (refine wpAnyH_take (i := 19) (oi := { dst := some 111, op := Go.Op.indexAddr 26 (Go.Operand.tmp 107) (Go.Operand.tmp 110), type := 0, pos := "more.go:37", after := #[{ on := 15, ground := Go.Ground.data }, { on := 18, ground := Go.Ground.data }, { on := 14, ground := Go.Ground.guard }], guard := some (14, true) }) (v := ?_) rfl (by kernel_rfl) (by kernel_rfl) (by kernel_rfl) (fun _ _ _ h => h) (Or.inl ⟨by rfl, ?_⟩) (by assumption) ?_; rotate_left 1; focus (intro w_ hSw; (try dsimp only at hSw); go_simp; all_goals (with_reducible rfl); done)) | (refine wpAnyH_take (i := 19) (oi := { dst := some 111, op := Go.Op.indexAddr 26 (Go.Operand.tmp 107) (Go.Operand.tmp 110), type := 0, pos := "more.go:37", after := #[{ on := 15, ground := Go.Ground.data }, { on := 18, ground := Go.Ground.data }, { on := 14, ground := Go.Ground.guard }], guard := some (14, true) }) rfl (by kernel_rfl) (by kernel_rfl) (by kernel_rfl) (fun _ _ _ h => h) (Or.inr ⟨by rfl, rfl⟩) (by assumption) ?_)
            focus try simp only [Act.put, List.setIfInBounds_toArray, List.set_cons_zero, List.set_cons_succ]
            first | (refine wpAnyH_take (i := 20) (oi := { dst := some 112, op := Go.Op.load 32 (Go.Operand.tmp 111), type := 32, pos := "more.go:37", after := #[{ on := 19, ground := Go.Ground.data }, { on := 14, ground := Go.Ground.guard }], guard := some (14, true) }) (v := ?_) rfl (by kernel_rfl) (by kernel_rfl) (by kernel_rfl) (fun _ _ _ h => h) (Or.inl ⟨by rfl, ?_⟩) (by assumption) ?_; rotate_left 1; focus (intro w_ hSw; (try dsimp only at hSw); go_simp; all_goals (with_reducible rfl); done)) | (refine wpAnyH_take (i := 20) (oi := { dst := some 112, op := Go.Op.load 32 (Go.Operand.tmp 111), type := 32, pos := "more.go:37", after := #[{ on := 19, ground := Go.Ground.data }, { on := 14, ground := Go.Ground.guard }], guard := some (14, true) }) rfl (by kernel_rfl) (by kernel_rfl) (by kernel_rfl) (fun _ _ _ h => h) (Or.inr ⟨by rfl, rfl⟩) (by assumption) ?_)
            focus try simp only [Act.put, List.setIfInBounds_toArray, List.set_cons_zero, List.set_cons_succ]
            first | (refine wpAnyH_take (i := 21) (oi := { dst := some 113, op := Go.Op.indexAddr 32 (Go.Operand.tmp 112) (Go.Operand.const (Go.Value.int Go.IntKind.i64 0)), type := 0, pos := "more.go:37", after := #[{ on := 20, ground := Go.Ground.data }, { on := 14, ground := Go.Ground.guard }], guard := some (14, true) }) (v := ?_) rfl (by kernel_rfl) (by kernel_rfl) (by kernel_rfl) (fun _ _ _ h => h) (Or.inl ⟨by rfl, ?_⟩) (by assumption) ?_; rotate_left 1; focus (intro w_ hSw; (try dsimp only at hSw); go_simp; all_goals (with_reducible rfl); done)) | (refine wpAnyH_take (i := 21) (oi := { dst := some 113, op := Go.Op.indexAddr 32 (Go.Operand.tmp 112) (Go.Operand.const (Go.Value.int Go.IntKind.i64 0)), type := 0, pos := "more.go:37", after := #[{ on := 20, ground := Go.Ground.data }, { on := 14, ground := Go.Ground.guard }], guard := some (14, true) }) rfl (by kernel_rfl) (by kernel_rfl) (by kernel_rfl) (fun _ _ _ h => h) (Or.inr ⟨by rfl, rfl⟩) (by assumption) ?_)
            focus try simp only [Act.put, List.setIfInBounds_toArray, List.set_cons_zero, List.set_cons_succ]
            first | (refine wpAnyH_take (i := 22) (oi := { dst := some 114, op := Go.Op.load 3 (Go.Operand.tmp 113), type := 3, pos := "more.go:37", after := #[{ on := 21, ground := Go.Ground.data }, { on := 14, ground := Go.Ground.guard }], guard := some (14, true) }) (v := ?_) rfl (by kernel_rfl) (by kernel_rfl) (by kernel_rfl) (fun _ _ _ h => h) (Or.inl ⟨by rfl, ?_⟩) (by assumption) ?_; rotate_left 1; focus (intro w_ hSw; (try dsimp only at hSw); go_simp; all_goals (with_reducible rfl); done)) | (refine wpAnyH_take (i := 22) (oi := { dst := some 114, op := Go.Op.load 3 (Go.Operand.tmp 113), type := 3, pos := "more.go:37", after := #[{ on := 21, ground := Go.Ground.data }, { on := 14, ground := Go.Ground.guard }], guard := some (14, true) }) rfl (by kernel_rfl) (by kernel_rfl) (by kernel_rfl) (fun _ _ _ h => h) (Or.inr ⟨by rfl, rfl⟩) (by assumption) ?_)
            focus try simp only [Act.put, List.setIfInBounds_toArray, List.set_cons_zero, List.set_cons_succ]
            first | (refine wpAnyH_take (i := 23) (oi := { dst := some 115, op := Go.Op.move (Go.Operand.tmp 10), type := 3, pos := "more.go:37", after := #[{ on := 14, ground := Go.Ground.guard }], guard := some (14, true) }) (v := ?_) rfl (by kernel_rfl) (by kernel_rfl) (by kernel_rfl) (fun _ _ _ h => h) (Or.inl ⟨by rfl, ?_⟩) (by assumption) ?_; rotate_left 1; focus (intro w_ hSw; (try dsimp only at hSw); go_simp; all_goals (with_reducible rfl); done)) | (refine wpAnyH_take (i := 23) (oi := { dst := some 115, op := Go.Op.move (Go.Operand.tmp 10), type := 3, pos := "more.go:37", after := #[{ on := 14, ground := Go.Ground.guard }], guard := some (14, true) }) rfl (by kernel_rfl) (by kernel_rfl) (by kernel_rfl) (fun _ _ _ h => h) (Or.inr ⟨by rfl, rfl⟩) (by assumption) ?_)
            focus try simp only [Act.put, List.setIfInBounds_toArray, List.set_cons_zero, List.set_cons_succ]
            first | (refine wpAnyH_take (i := 24) (oi := { dst := some 116, op := Go.Op.binOp Go.BinOp.eql 3 (Go.Operand.tmp 114) (Go.Operand.tmp 115) 3, type := 4, pos := "more.go:37", after := #[{ on := 22, ground := Go.Ground.data }, { on := 23, ground := Go.Ground.data }, { on := 14, ground := Go.Ground.guard }], guard := some (14, true) }) (v := ?_) rfl (by kernel_rfl) (by kernel_rfl) (by kernel_rfl) (fun _ _ _ h => h) (Or.inl ⟨by rfl, ?_⟩) (by assumption) ?_; rotate_left 1; focus (intro w_ hSw; (try dsimp only at hSw); go_simp; all_goals (with_reducible rfl); done)) | (refine wpAnyH_take (i := 24) (oi := { dst := some 116, op := Go.Op.binOp Go.BinOp.eql 3 (Go.Operand.tmp 114) (Go.Operand.tmp 115) 3, type := 4, pos := "more.go:37", after := #[{ on := 22, ground := Go.Ground.data }, { on := 23, ground := Go.Ground.data }, { on := 14, ground := Go.Ground.guard }], guard := some (14, true) }) rfl (by kernel_rfl) (by kernel_rfl) (by kernel_rfl) (fun _ _ _ h => h) (Or.inr ⟨by rfl, rfl⟩) (by assumption) ?_)
            focus try simp only [Act.put, List.setIfInBounds_toArray, List.set_cons_zero, List.set_cons_succ]
            refine wpAnyH_take (i := 25) (oi := { dst := some 117, op := Go.Op.pick (Go.Operand.tmp 106) (Go.Operand.tmp 116) (Go.Operand.const (Go.Value.bool false)), type := 4, pos := "more.go:37", after := #[{ on := 14, ground := Go.Ground.data }, { on := 24, ground := Go.Ground.data }], guard := none }) (v := ?_) rfl (by kernel_rfl) (by kernel_rfl) (by kernel_rfl) (fun _ _ _ h => h) (Or.inl ⟨by rfl, ?_⟩) (by assumption) ?_
            rotate_left 1
            · intro w_ hSw; (try dsimp only at hSw); go_simp; all_goals (with_reducible rfl)
            focus try simp only [Act.put, List.setIfInBounds_toArray, List.set_cons_zero, List.set_cons_succ]
            refine wpAnyH_take (i := 26) (oi := { dst := some 2, op := Go.Op.assign (Go.Operand.tmp 117), type := 4, pos := "more.go:37", after := #[{ on := 25, ground := Go.Ground.data }, { on := 14, ground := Go.Ground.chain }, { on := 0, ground := Go.Ground.phase }, { on := 1, ground := Go.Ground.phase }, { on := 2, ground := Go.Ground.phase }, { on := 3, ground := Go.Ground.phase }, { on := 4, ground := Go.Ground.phase }, { on := 5, ground := Go.Ground.phase }, { on := 6, ground := Go.Ground.phase }, { on := 7, ground := Go.Ground.phase }, { on := 8, ground := Go.Ground.phase }, { on := 9, ground := Go.Ground.phase }, { on := 10, ground := Go.Ground.phase }, { on := 11, ground := Go.Ground.phase }, { on := 12, ground := Go.Ground.phase }, { on := 13, ground := Go.Ground.phase }, { on := 14, ground := Go.Ground.phase }, { on := 15, ground := Go.Ground.phase }, { on := 16, ground := Go.Ground.phase }, { on := 17, ground := Go.Ground.phase }, { on := 18, ground := Go.Ground.phase }, { on := 19, ground := Go.Ground.phase }, { on := 20, ground := Go.Ground.phase }, { on := 21, ground := Go.Ground.phase }, { on := 22, ground := Go.Ground.phase }, { on := 23, ground := Go.Ground.phase }, { on := 24, ground := Go.Ground.phase }, { on := 25, ground := Go.Ground.phase }], guard := none }) (v := ?_) rfl (by kernel_rfl) (by kernel_rfl) (by kernel_rfl) (fun _ _ _ h => h) (Or.inl ⟨by rfl, ?_⟩) (by assumption) ?_
            rotate_left 1
            · intro w_ hSw; (try dsimp only at hSw); go_simp; all_goals (with_reducible rfl)
            focus try simp only [Act.put, List.setIfInBounds_toArray, List.set_cons_zero, List.set_cons_succ]
            refine wpAnyH_done (by kernel_rfl) ?_ _
            rotate_left 1
            all_goals
              go_wp2
              refine bodyPost_ret (v := .bool true) (by simp [results, Tryd.results7, go_sem]) rfl ⟨rfl, ?_⟩
              exact HBR.out.trans ((pw_below_drewN (below_drew1 (Below.refl _ _)) _).mono HBR.out.size)
      · have hd1 : (rD > 90) = True := eq_true (by omega)
        have hd2 : (90 < rD) = True := eq_true (by omega)
        clear LAW2 hrS hrD
        go_wp2_with (first | (go_at_call 19; refine (CS.out _ HC3.out).mono ?_; rintro e w4 ⟨rfl, hb4⟩; have k4 := blk_below K3.out hb4; clear p0 p1 p2 p3; have p0 : w4.cell? ⟨w.heap.size, 0, none⟩ = some (.int .i64 t.f0) := (blk_cell k4 0).trans rfl; have p1 : w4.cell? ⟨w.heap.size, 1, none⟩ = some (.string t.f1) := (blk_cell k4 1).trans rfl; have p2 : w4.cell? ⟨w.heap.size, 2, none⟩ = some (.int .i64 t.f2) := (blk_cell k4 2).trans rfl; have p3 : w4.cell? ⟨w.heap.size, 3, none⟩ = some (.slice A t.f3.length c) := (blk_cell k4 3).trans rfl; have K4 := Lib.hid k4; have HB4 := Lib.hid hb4; clear k4 hb4) | (go_at_call 20; refine (CD.out _ (Kd.C_below HC3.out HB4.out)).mono ?_; rintro e w5 ⟨rfl, hb5⟩; have k5 := blk_below K4.out hb5; clear p0 p1 p2 p3; have p0 : w5.cell? ⟨w.heap.size, 0, none⟩ = some (.int .i64 t.f0) := (blk_cell k5 0).trans rfl; have p1 : w5.cell? ⟨w.heap.size, 1, none⟩ = some (.string t.f1) := (blk_cell k5 1).trans rfl; have p2 : w5.cell? ⟨w.heap.size, 2, none⟩ = some (.int .i64 t.f2) := (blk_cell k5 2).trans rfl; have p3 : w5.cell? ⟨w.heap.size, 3, none⟩ = some (.slice A t.f3.length c) := (blk_cell k5 3).trans rfl; have K5 := Lib.hid k5; have HB5 := Lib.hid (HB4.out.trans (hb5.mono HB4.out.size)); clear k5 hb5))
        exact bodyPost_ret (v := .bool true) (by simp [results, Tryd.results7, go_sem]) rfl ⟨rfl, HB3.out.trans (HB5.out.mono HB3.out.size)⟩
    · have hz1 : (rS > 900) = True := eq_true (by omega)
      have hz2 : (900 < rS) = True := eq_true (by omega)
      clear LAW2 hrS hrD
      go_wp2_with (go_at_call 19; refine (CS.out _ HC3.out).mono ?_; rintro e w4 ⟨rfl, hb4⟩; have HB4 := Lib.hid hb4; clear hb4)
      exact bodyPost_ret (v := .bool true) (by simp [results, Tryd.results7, go_sem]) rfl ⟨rfl, HB3.out.trans (HB4.out.mono HB3.out.size)⟩
  · have he1b : (e1 != 0) = true := by simpa using he1
    clear LAW OK HE0 he1
    go_wp2_with fail
    exact bodyPost_ret (v := .bool true) (by simp [results, Tryd.results7, go_sem]) rfl ⟨rfl, HB3.out⟩
end Go.Proofs.YthckboogibhjaaaDoor.Trm
