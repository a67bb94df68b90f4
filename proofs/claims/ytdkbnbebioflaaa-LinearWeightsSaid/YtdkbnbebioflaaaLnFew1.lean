import Derived.Test.YtdkbnbebioflaaaLnShown
section
-- Written by a program of this session (myprint.py) out of the translation, with contracts of this session given.
namespace Go.Proofs
theorem Z1h0 {p : Prop} (h : p := by first | (with_reducible assumption) | assumption) : p := h
theorem Z1h1 {p : Prop} (h : p := by kernel_rfl) : p := h
theorem Z1h2 {p : Prop} (h : p := by (with_reducible repeat (first | apply Kd.S_alloc | apply Kd.S_drewN | apply Kd.S_drew)); exact HO_3.out) : p := h
theorem Z1h3 {p : Prop} (h : p := by repeat (first | (with_reducible first | exact HB.out | apply below_alloc | apply pw_below_drewN | apply below_drew1) | exact HB.out)) : p := h
end Go.Proofs
namespace Go.Proofs.Ytdkbnbebioflaaa.LnFew
open Go.RowKit Go.Proofs.Ytdkbnbebioflaaa.Given Go.Proofs.Ytdkbnbebioflaaa.Ln Go.Proofs.YtdkbnbebioflaaaW.PrintWords Go.Proofs.YtdkbnbebioflaaaW.PrintLast Go.Proofs.YtdkbnbebioflaaaW.PrintMore
attribute [local go_sem] max2_int min2_int max_two min_two max_three min_three max_four min_four
set_option linter.unusedVariables false
set_option linter.unusedSimpArgs false
def ashlarlaw11_few.l0 : Nat → List (S38) → List (S38) → Int → Option ((List (S38)))
 | 0, _, _, _ => none
 | k + 1, x0, x3, x4 => if x4 < (x0.length : Int) then (if x4 < 20 then ((some (([] : List Int) : List Int)).bind fun y101 => (if 0 ≤ x4 then (if 0 ≤ (mn (((rd_T38 x0 x4).f0).length : Int) 70) then (if (mn (((rd_T38 x0 x4).f0).length : Int) 70) ≤ (((rd_T38 x0 x4).f0).length : Int) then (if y101.length + (((rd_T38 x0 x4).f0).take ((mn (((rd_T38 x0 x4).f0).length : Int) 70) : Int).toNat).length < 17592186044416 then (if x3.length < 4398046511104 then (ashlarlaw11_few.l0 k x0 (x3 ++ [(⟨(y101 ++ (((rd_T38 x0 x4).f0).take ((mn (((rd_T38 x0 x4).f0).length : Int) 70) : Int).toNat)), (rd_T38 x0 x4).f1⟩ : S38)]) (wrap64 (x4 + 1))) else (none)) else (none)) else (none)) else (none)) else (none))) else (some x3)) else (some x3)
def ashlarlaw11_few.f (k : Nat) (l0 : List (S38)) : Option ((List (S38))) := ashlarlaw11_few.l0 k l0 ([] : List (S38)) 0
theorem ashlarlaw11_few.mono_l : ∀ k, (∀ y0 y1 y2, LeO (ashlarlaw11_few.l0 k y0 y1 y2) (ashlarlaw11_few.l0 (k + 1) y0 y1 y2))
 | 0 => fun _ _ _ r h => by simp [ashlarlaw11_few.l0] at h
 | k + 1 => by
  have ih0 := ashlarlaw11_few.mono_l k
  ·intro y0 y1 y2
   unfold ashlarlaw11_few.l0
   repeat' first
   | (with_reducible exact ih0 _ _ _)
   | (with_reducible exact LeO.refl _)
   | (with_reducible exact LeO.none _)
   | (with_reducible refine LeO.ite ?_ ?_)
   | (with_reducible refine LeO.bind ?_ (fun _ => ?_))
   | exact ih0 _ _ _
   | exact LeO.none _
   | refine LeO.ite ?_ ?_
   | refine LeO.bind ?_ (fun _ => ?_)
theorem ashlarlaw11_few.mono : ∀ a0 k, LeO (ashlarlaw11_few.f k a0) (ashlarlaw11_few.f (k + 1) a0) := by
 intro a0 k
 have ih0 := ashlarlaw11_few.mono_l k
 unfold ashlarlaw11_few.f
 repeat' first
   | (with_reducible exact ih0 _ _ _)
   | (with_reducible exact LeO.refl _)
   | (with_reducible exact LeO.none _)
   | (with_reducible refine LeO.ite ?_ ?_)
   | (with_reducible refine LeO.bind ?_ (fun _ => ?_))
   | exact ih0 _ _ _
   | exact LeO.none _
   | refine LeO.ite ?_ ?_
   | refine LeO.bind ?_ (fun _ => ?_)
def ashlarlaw11_few.T5 : Bool × List (List Nat × List Nat) := (true, [([], []), ([], []), ([], []), ([], []), ([2, 3], [2, 3]), ([4], [4]), ([5], [5]), ([], []), ([], []), ([7, 8], [7, 8]), ([9], [9]), ([10], [10]), ([11], [11]), ([12], [12]), ([6, 13], [6, 13]), ([1, 14], [1, 14]), ([], []), ([], []), ([16, 17], [16, 17]), ([18], [18]), ([19], [19]), ([15, 20], [15, 20]), ([21], [21]), ([0, 22, 15], [0, 22]), ([23, 23, 0, 1, 2, 3, 4, 5, 6, 7, 8, 9, 10, 11, 12, 13, 14, 15, 16, 17, 18, 19, 20, 21, 22, 23], [0, 23])])
def ashlarlaw11_few.B5 : List Nat := [0, 0, 0, 0, 12, 28, 60, 0, 0, 384, 896, 1920, 3968, 8064, 16380, 32766, 0, 0, 196608, 458752, 983040, 2097150, 4194302, 8388607, 16777215]
theorem ashlarlaw11_few.tab5 : rtab .any (opsOf Try.f7 5) = ashlarlaw11_few.T5 := by kernel_rfl
theorem ashlarlaw11_few.bits5 : waitsOk ashlarlaw11_few.T5.2 ashlarlaw11_few.B5 = true := by kernel_rfl
set_option maxHeartbeats 8000000 in
set_option maxRecDepth 100000 in
theorem ashlarlaw11_few.calls (k : Nat) (A0 : Option Addr) (c0 : Nat) (l0 : List (S38)) (r : List (S38)) (w : World) (hr0 : Kd.C k38 w A0 l0.length l0) (hc0 : l0.length ≤ c0) (h : ashlarlaw11_few.f k l0 = some r) :
  Calls Try.prog 7 #[.slice A0 l0.length c0] w fun e w' => ∃ v0_ : Value, e = .returned (v0_) ∧ Kd.S k38 38 w' w.heap.size (fun _ => True) v0_ r ∧ Below w.heap.size w w' := by
 have hu38 := Try.underlying38
 have HR0 := Aside0.mk hr0
 have HC0 := Aside0.mk hc0
 clear hr0 hc0
 have HB := Aside0.mk (Below.refl w.heap.size w)
 have H : (ashlarlaw11_few.l0 k l0 ([] : List (S38)) 0) = some r := h
 clear h
 have H' := Aside0.mk H
 clear H
 go_enter Try.func7, Try.ntmps7
 go_wp2
 go_loopg [3, 4] k (fun kq v3 v4 w' => ∃ (x3_1 : List (S38)) (x4_1 : Int), v4 = .int .i64 x4_1 ∧ Aside0 (ashlarlaw11_few.l0 kq l0 x3_1 x4_1 = some r) ∧ Aside0 (kq ≤ k) ∧ Aside0 (Kd.S k38 38 w' w.heap.size (fun _ => True) v3 x3_1) ∧ Aside0 (Below w.heap.size w w'))
 case atStart => exact ⟨(([] : List (S38))), (0), (by first | rfl | (simp; done) | (simp [*]; done)), H', ⟨Nat.le_refl _⟩, ⟨by first | exact Kd.S_nil _ _ _ _ _ | exact Kd.N_nil _ _ _ _ _ | exact Kd.V_nil _ _ _ _ _ | exact Kd.Q_nil _ _ _ _ _ | exact Kd.R_nil _ _ _ _ _⟩, ⟨by repeat (first | (with_reducible first | exact HB.out | apply below_alloc | apply pw_below_drewN | apply below_drew1) | exact HB.out)⟩⟩
 case round =>
  clear H'
  obtain ⟨x3_1, x4_1, rfl, HA, HK1, HO_3, HB⟩ := hrel
  cases gk with
  | zero => exact absurd HA.out (by simp [ashlarlaw11_few.l0])
  | succ k1 =>
   have H := HA.out
   clear HA
   simp only [ashlarlaw11_few.l0] at H
   by_cases c2 : x4_1 < (l0.length : Int)
   ·rw [if_pos c2] at H
    have c2b0 : decide (x4_1 < (l0.length : Int)) = true := decide_eq_true c2
    clear c2
    by_cases c3 : x4_1 < 20
    ·rw [if_pos c3] at H
     have c3b0 : decide (x4_1 < 20) = true := decide_eq_true c3
     clear c3
     obtain ⟨y101, hy101⟩ : ∃ y_ : List Int, y_ = (([] : List Int)) := ⟨_, rfl⟩
     replace H : (if 0 ≤ x4_1 then (if 0 ≤ (mn (((rd_T38 l0 x4_1).f0).length : Int) 70) then (if (mn (((rd_T38 l0 x4_1).f0).length : Int) 70) ≤ (((rd_T38 l0 x4_1).f0).length : Int) then (if y101.length + (((rd_T38 l0 x4_1).f0).take ((mn (((rd_T38 l0 x4_1).f0).length : Int) 70) : Int).toNat).length < 17592186044416 then (if x3_1.length < 4398046511104 then (ashlarlaw11_few.l0 k1 l0 (x3_1 ++ [(⟨(y101 ++ (((rd_T38 l0 x4_1).f0).take ((mn (((rd_T38 l0 x4_1).f0).length : Int) 70) : Int).toNat)), (rd_T38 l0 x4_1).f1⟩ : S38)]) (wrap64 (x4_1 + 1))) else (none)) else (none)) else (none)) else (none)) else (none)) = some r := by first | (rw [hy101]; with_reducible exact H) | (have H2_ := (Option.bind_some _ _).symm.trans H; rw [hy101]; with_reducible exact H2_) | (have H2_ := (Option.bind_some _ _).symm.trans H; with_reducible exact H2_) | with_reducible exact H | (rw [hy101]; exact H) | exact H
     have Ny101 := Aside0.mk hy101
     clear hy101
     by_cases c4 : 0 ≤ x4_1
     ·rw [if_pos c4] at H
      have c4b0 : decide (0 ≤ x4_1) = true := decide_eq_true c4
      clear c4
      obtain ⟨ji5, hji5⟩ : ∃ j_ : Int, (mn (((rd_T38 l0 x4_1).f0).length : Int) 70) = j_ := ⟨_, rfl⟩
      replace H : (if 0 ≤ (ji5) then (if (ji5) ≤ (((rd_T38 l0 x4_1).f0).length : Int) then (if y101.length + (((rd_T38 l0 x4_1).f0).take ((ji5) : Int).toNat).length < 17592186044416 then (if x3_1.length < 4398046511104 then (ashlarlaw11_few.l0 k1 l0 (x3_1 ++ [(⟨(y101 ++ (((rd_T38 l0 x4_1).f0).take ((ji5) : Int).toNat)), (rd_T38 l0 x4_1).f1⟩ : S38)]) (wrap64 (x4_1 + 1))) else (none)) else (none)) else (none)) else (none)) = some r := by first | (rw [hji5] at H; exact H) | (simp only [hji5] at H ⊢; exact H)
      have hji5_ : (if 70 < (((rd_T38 l0 x4_1).f0).length : Int) then 70 else (((rd_T38 l0 x4_1).f0).length : Int)) = ji5 := hji5
      by_cases c6 : 0 ≤ (ji5)
      ·rw [if_pos c6] at H
       have c6b0 := eq_true c6
       have c6b1 : decide (0 ≤ (ji5)) = true := decide_eq_true c6
       clear c6
       by_cases c7 : (ji5) ≤ (((rd_T38 l0 x4_1).f0).length : Int)
       ·rw [if_pos c7] at H
        have c7b0 := eq_true c7
        have c7b1 : decide ((ji5) ≤ (((rd_T38 l0 x4_1).f0).length : Int)) = true := decide_eq_true c7
        clear c7
        by_cases c8 : y101.length + (((rd_T38 l0 x4_1).f0).take ((ji5) : Int).toNat).length < 17592186044416
        ·rw [if_pos c8] at H
         have LMc8 := Aside0.mk c8
         clear c8
         obtain ⟨y107, hy107⟩ : ∃ y_ : List Int, y_ = (y101 ++ (((rd_T38 l0 x4_1).f0).take ((ji5) : Int).toNat)) := ⟨_, rfl⟩
         replace H : (if x3_1.length < 4398046511104 then (ashlarlaw11_few.l0 k1 l0 (x3_1 ++ [(⟨y107, (rd_T38 l0 x4_1).f1⟩ : S38)]) (wrap64 (x4_1 + 1))) else (none)) = some r := by first | (rw [hy107]; with_reducible exact H) | (have H2_ := (Option.bind_some _ _).symm.trans H; rw [hy107]; with_reducible exact H2_) | (have H2_ := (Option.bind_some _ _).symm.trans H; with_reducible exact H2_) | with_reducible exact H | (rw [hy107]; exact H) | exact H
         have Ny107 := Aside0.mk hy107
         clear hy107
         by_cases c9 : x3_1.length < 4398046511104
         ·rw [if_pos c9] at H
          have LMc9 := Aside0.mk c9
          clear c9
          obtain ⟨y111, hy111⟩ : ∃ y_ : List (S38), y_ = (x3_1 ++ [(⟨y107, (rd_T38 l0 x4_1).f1⟩ : S38)]) := ⟨_, rfl⟩
          replace H : (ashlarlaw11_few.l0 k1 l0 y111 (wrap64 (x4_1 + 1))) = some r := by first | (rw [hy111]; with_reducible exact H) | (have H2_ := (Option.bind_some _ _).symm.trans H; rw [hy111]; with_reducible exact H2_) | (have H2_ := (Option.bind_some _ _).symm.trans H; with_reducible exact H2_) | with_reducible exact H | (rw [hy111]; exact H) | exact H
          have Ny111 := Aside0.mk hy111
          clear hy111
          have H' := Aside0.mk H
          clear H
          try go_wp2
          have n0_ := Aside0.mk (Kd.S_drew HO_3.out)
          have n1_ := Aside0.mk (below_drew1 HB.out)
          clear HO_3
          clear HB
          have HO_3 := n0_
          have HB := n1_
          clear n0_ n1_
          have p104 : 0 ≤ (x4_1 : Int) := of_decide_eq_true Z1h0
          have q104 : x4_1 < (l0.length : Int) := of_decide_eq_true Z1h0
          obtain ⟨ad104, A104_0, c104_0, e104, hx104_0, hx104_1, hl104_0, hi104_0⟩ := at_T38 HR0.out x4_1 p104 q104
          have hw104_1 := hx104_1
          have hw104_0 := hx104_0
          cases e104
          replace hx104_0 := (HB.out.cell (World.block_lt_of_cell? w _ hx104_0)).trans hx104_0
          replace hx104_1 := (HB.out.cell (World.block_lt_of_cell? w _ hx104_1)).trans hx104_1
          have HR104_0 := Aside0.mk hi104_0
          have HC104_0 := Aside0.mk hl104_0
          clear hi104_0 hl104_0
          replace p104 := eq_true p104
          replace q104 := eq_true q104
          have p105 : 0 ≤ (x4_1 : Int) := of_decide_eq_true Z1h0
          have q105 : x4_1 < (l0.length : Int) := of_decide_eq_true Z1h0
          obtain ⟨ad105, A105_0, c105_0, e105, hx105_0, hx105_1, hl105_0, hi105_0⟩ := at_T38 HR0.out x4_1 p105 q105
          have hw105_1 := hx105_1
          have hw105_0 := hx105_0
          obtain rfl : ad104 = ad105 := (by injection e105)
          replace hx105_0 := (HB.out.cell (World.block_lt_of_cell? w _ hx105_0)).trans hx105_0
          replace hx105_1 := (HB.out.cell (World.block_lt_of_cell? w _ hx105_1)).trans hx105_1
          have HR105_0 := Aside0.mk hi105_0
          have HC105_0 := Aside0.mk hl105_0
          clear hi105_0 hl105_0
          replace p105 := eq_true p105
          replace q105 := eq_true q105
          have ea_ := Option.some.inj (hx104_0.symm.trans hx105_0)
          injection ea_ with ea_ en_ ec_
          subst ea_
          subst ec_
          clear en_
          obtain ⟨i011, hi011, _, hsz11, _⟩ := info_parts info2
          obtain ⟨hcut11, hA11, hC11⟩ := print_take_of (P := Try.prog) (Value.int .i64) 0 33 2 .i64 Try.underlying33 hi011 hsz11 A104_0 c104_0 ((rd_T38 l0 x4_1).f0) (ji5) (of_decide_eq_true Z1h0) (of_decide_eq_true Z1h0) HC104_0.out
          have HR106 := Aside0.mk (Kd.C_of_reads (h1 := fun _ => rfl) (hA11 _ (Kd.reads_of_C HR104_0.out)))
          have HC106 := Aside0.mk hC11
          clear hA11 hC11 hi011 hsz11
          have p110 : 0 ≤ (x4_1 : Int) := of_decide_eq_true Z1h0
          have q110 : x4_1 < (l0.length : Int) := of_decide_eq_true Z1h0
          obtain ⟨ad110, A110_0, c110_0, e110, hx110_0, hx110_1, hl110_0, hi110_0⟩ := at_T38 HR0.out x4_1 p110 q110
          have hw110_1 := hx110_1
          have hw110_0 := hx110_0
          obtain rfl : ad104 = ad110 := (by injection e110)
          replace hx110_0 := (HB.out.cell (World.block_lt_of_cell? w _ hx110_0)).trans hx110_0
          replace hx110_1 := (HB.out.cell (World.block_lt_of_cell? w _ hx110_1)).trans hx110_1
          have HR110_0 := Aside0.mk hi110_0
          have HC110_0 := Aside0.mk hl110_0
          clear hi110_0 hl110_0
          replace p110 := eq_true p110
          replace q110 := eq_true q110
          have ea_ := Option.some.inj (hx104_0.symm.trans hx110_0)
          injection ea_ with ea_ en_ ec_
          subst ea_
          subst ec_
          clear en_
          refine start_ (n := 25) (S := fun w' => w'.cell? (ad104.add ((x4_1).toNat * 2)) = some (.slice A104_0 ((rd_T38 l0 x4_1).f0).length c104_0) ∧ w'.cell? ⟨(ad104.add ((x4_1).toNat * 2)).block, (ad104.add ((x4_1).toNat * 2)).off + 1, none⟩ = some (.int .i64 ((rd_T38 l0 x4_1).f1)) ∧ w'.cell? (ad104.add ((x4_1).toNat * 2)) = some (.slice A104_0 ((rd_T38 l0 x4_1).f0).length c104_0) ∧ w'.cell? ⟨(ad104.add ((x4_1).toNat * 2)).block, (ad104.add ((x4_1).toNat * 2)).off + 1, none⟩ = some (.int .i64 ((rd_T38 l0 x4_1).f1)) ∧ w'.cell? (ad104.add ((x4_1).toNat * 2)) = some (.slice A104_0 ((rd_T38 l0 x4_1).f0).length c104_0) ∧ w'.cell? ⟨(ad104.add ((x4_1).toNat * 2)).block, (ad104.add ((x4_1).toNat * 2)).off + 1, none⟩ = some (.int .i64 ((rd_T38 l0 x4_1).f1))) (ds := []) #[false, false, false, false, false, false, false, false, false, false, false, false, false, false, false, false, false, false, false, false, false, false, false, false, false] Z1h1 rfl rfl ⟨((HB.out.cell (World.block_lt_of_cell? w _ hw104_0)).trans hw104_0), ((HB.out.cell (World.block_lt_of_cell? w _ hw104_1)).trans hw104_1), ((HB.out.cell (World.block_lt_of_cell? w _ hw105_0)).trans hw105_0), ((HB.out.cell (World.block_lt_of_cell? w _ hw105_1)).trans hw105_1), ((HB.out.cell (World.block_lt_of_cell? w _ hw110_0)).trans hw110_0), ((HB.out.cell (World.block_lt_of_cell? w _ hw110_1)).trans hw110_1)⟩ (fun hHeld => ?_); refine with_tabW ashlarlaw11_few.tab5 ashlarlaw11_few.bits5 (fun HT_ HW_ => ?_)
          generalize wr.drew = w10 at HO_3 HB HR104_0 HR105_0 HR106 HR110_0 hx104_0 hx104_1 hx105_0 hx105_1 hx110_0 hx110_1 hHeld ⊢
          refine pure_ (i := 0) (N := some 15) (v := ?_) (a' := ?_) #[true, false, false, false, false, false, false, false, false, false, false, false, false, false, false, false, false, false, false, false, false, false, false, false, false] rfl rfl (any_of HT_.out Z1h1) (fun _ _ _ h => h) (Or.inl ⟨by rfl, ?_⟩) ?_ ?_
          rotate_left
          ·intro w'
           go_simp
           with_reducible rfl
          rotate_left
          ·simp only [Act.put, List.setIfInBounds_toArray, List.set_cons_zero, List.set_cons_succ, i64_w, i32_w]
           rfl
          refine pure_ (i := 2) (N := some 17) (v := ?_) (a' := ?_) #[true, false, true, false, false, false, false, false, false, false, false, false, false, false, false, false, false, false, false, false, false, false, false, false, false] rfl rfl (any_of HT_.out Z1h1) (fun _ _ _ h => h) (Or.inl ⟨by rfl, ?_⟩) ?_ ?_
          rotate_left
          ·intro w'
           go_simp
           with_reducible rfl
          rotate_left
          ·simp only [Act.put, List.setIfInBounds_toArray, List.set_cons_zero, List.set_cons_succ, i64_w, i32_w]
           rfl
          refine pure_ (i := 3) (N := some 18) (v := ?_) (a' := ?_) #[true, false, true, true, false, false, false, false, false, false, false, false, false, false, false, false, false, false, false, false, false, false, false, false, false] rfl rfl (any_of HT_.out Z1h1) (fun _ _ _ h => h) (Or.inl ⟨by rfl, ?_⟩) ?_ ?_
          rotate_left
          ·intro w'
           go_simp
           with_reducible rfl
          rotate_left
          ·simp only [Act.put, List.setIfInBounds_toArray, List.set_cons_zero, List.set_cons_succ, i64_w, i32_w]
           rfl
          refine pure_ (i := 4) (N := some 19) (v := ?_) (a' := ?_) #[true, false, true, true, true, false, false, false, false, false, false, false, false, false, false, false, false, false, false, false, false, false, false, false, false] rfl rfl (any_of HT_.out Z1h1) (fun _ _ _ h => h) (Or.inl ⟨by rfl, ?_⟩) ?_ ?_
          rotate_left
          ·intro w'
           go_simp
           with_reducible rfl
          rotate_left
          ·simp only [Act.put, List.setIfInBounds_toArray, List.set_cons_zero, List.set_cons_succ, i64_w, i32_w]
           rfl
          refine pure_ (i := 5) (N := some 20) (v := ?_) (a' := ?_) #[true, false, true, true, true, true, false, false, false, false, false, false, false, false, false, false, false, false, false, false, false, false, false, false, false] rfl rfl (any_of HT_.out Z1h1) (fun _ _ _ h => h) (Or.inl ⟨by rfl, ?_⟩) ?_ ?_
          rotate_left
          ·intro w'
           go_simp
           with_reducible rfl
          rotate_left
          ·simp only [Act.put, List.setIfInBounds_toArray, List.set_cons_zero, List.set_cons_succ, i64_w, i32_w]
           rfl
          refine pure_ (i := 7) (N := some 22) (v := ?_) (a' := ?_) #[true, false, true, true, true, true, false, true, false, false, false, false, false, false, false, false, false, false, false, false, false, false, false, false, false] rfl rfl (any_of HT_.out Z1h1) (fun _ _ _ h => h) (Or.inl ⟨by rfl, ?_⟩) ?_ ?_
          rotate_left
          ·intro w'
           go_simp
           with_reducible rfl
          rotate_left
          ·simp only [Act.put, List.setIfInBounds_toArray, List.set_cons_zero, List.set_cons_succ, i64_w, i32_w]
           rfl
          refine pure_ (i := 8) (N := some 23) (v := ?_) (a' := ?_) #[true, false, true, true, true, true, false, true, true, false, false, false, false, false, false, false, false, false, false, false, false, false, false, false, false] rfl rfl (any_of HT_.out Z1h1) (fun _ _ _ h => h) (Or.inl ⟨by rfl, ?_⟩) ?_ ?_
          rotate_left
          ·intro w'
           go_simp
           with_reducible rfl
          rotate_left
          ·simp only [Act.put, List.setIfInBounds_toArray, List.set_cons_zero, List.set_cons_succ, i64_w, i32_w]
           rfl
          refine pure_ (i := 9) (N := some 24) (v := ?_) (a' := ?_) #[true, false, true, true, true, true, false, true, true, true, false, false, false, false, false, false, false, false, false, false, false, false, false, false, false] rfl rfl (any_of HT_.out Z1h1) (fun _ _ _ h => h) (Or.inl ⟨by rfl, ?_⟩) ?_ ?_
          rotate_left
          ·intro w'
           go_simp
           with_reducible rfl
          rotate_left
          ·simp only [Act.put, List.setIfInBounds_toArray, List.set_cons_zero, List.set_cons_succ, i64_w, i32_w]
           rfl
          refine pure_ (i := 10) (N := some 25) (v := ?_) (a' := ?_) #[true, false, true, true, true, true, false, true, true, true, true, false, false, false, false, false, false, false, false, false, false, false, false, false, false] rfl rfl (any_of HT_.out Z1h1) (fun _ _ _ h => h) (Or.inl ⟨by rfl, ?_⟩) ?_ ?_
          rotate_left
          ·intro w'
           go_simp
           with_reducible rfl
          rotate_left
          ·simp only [Act.put, List.setIfInBounds_toArray, List.set_cons_zero, List.set_cons_succ, i64_w, i32_w]
           rfl
          refine pure_ (i := 16) (N := some 31) (v := ?_) (a' := ?_) #[true, false, true, true, true, true, false, true, true, true, true, false, false, false, false, false, true, false, false, false, false, false, false, false, false] rfl rfl (any_of HT_.out Z1h1) (fun _ _ _ h => h) (Or.inl ⟨by rfl, ?_⟩) ?_ ?_
          rotate_left
          ·intro w'
           go_simp
           with_reducible rfl
          rotate_left
          ·simp only [Act.put, List.setIfInBounds_toArray, List.set_cons_zero, List.set_cons_succ, i64_w, i32_w]
           rfl
          refine pure_ (i := 17) (N := some 32) (v := ?_) (a' := ?_) #[true, false, true, true, true, true, false, true, true, true, true, false, false, false, false, false, true, true, false, false, false, false, false, false, false] rfl rfl (any_of HT_.out Z1h1) (fun _ _ _ h => h) (Or.inl ⟨by rfl, ?_⟩) ?_ ?_
          rotate_left
          ·intro w'
           go_simp
           with_reducible rfl
          rotate_left
          ·simp only [Act.put, List.setIfInBounds_toArray, List.set_cons_zero, List.set_cons_succ, i64_w, i32_w]
           rfl
          refine pure_ (i := 18) (N := some 33) (v := ?_) (a' := ?_) #[true, false, true, true, true, true, false, true, true, true, true, false, false, false, false, false, true, true, true, false, false, false, false, false, false] rfl rfl (any_of HT_.out Z1h1) (fun _ _ _ h => h) (Or.inl ⟨by rfl, ?_⟩) ?_ ?_
          rotate_left
          ·intro w'
           go_simp
           with_reducible rfl
          rotate_left
          ·simp only [Act.put, List.setIfInBounds_toArray, List.set_cons_zero, List.set_cons_succ, i64_w, i32_w]
           rfl
          refine pure_ (i := 19) (N := some 34) (v := ?_) (a' := ?_) #[true, false, true, true, true, true, false, true, true, true, true, false, false, false, false, false, true, true, true, true, false, false, false, false, false] rfl rfl (any_of HT_.out Z1h1) (fun _ _ _ h => h) (Or.inl ⟨by rfl, ?_⟩) ?_ ?_
          rotate_left
          ·intro w'
           go_simp
           with_reducible rfl
          rotate_left
          ·simp only [Act.put, List.setIfInBounds_toArray, List.set_cons_zero, List.set_cons_succ, i64_w, i32_w]
           rfl
          refine take_ (i := 6) (N := some 21) (v := ?_) (a' := ?_) #[true, false, true, true, true, true, true, true, true, true, true, false, false, false, false, false, true, true, true, true, false, false, false, false, false] rfl rfl (take_ofW HT_.out HW_.out Z1h1) (fun _ _ _ h => h) (Or.inl ⟨by rfl, ?_⟩) hHeld ?_ ?_
          rotate_left
          ·rintro w' ⟨s0, s1, s2, s3, s4, s5⟩
           go_simp
           with_reducible rfl
          rotate_left
          ·simp only [Act.put, List.setIfInBounds_toArray, List.set_cons_zero, List.set_cons_succ, i64_w, i32_w]
           rfl
          refine take_ (i := 11) (N := some 26) (v := ?_) (a' := ?_) #[true, false, true, true, true, true, true, true, true, true, true, true, false, false, false, false, true, true, true, true, false, false, false, false, false] rfl rfl (take_ofW HT_.out HW_.out Z1h1) (fun _ _ _ h => h) (Or.inl ⟨by rfl, ?_⟩) hHeld ?_ ?_
          rotate_left
          ·rintro w' ⟨s0, s1, s2, s3, s4, s5⟩
           go_simp
           with_reducible rfl
          rotate_left
          ·simp only [Act.put, List.setIfInBounds_toArray, List.set_cons_zero, List.set_cons_succ, i64_w, i32_w]
           rfl
          refine pure_ (i := 12) (N := some 27) (v := ?_) (a' := ?_) #[true, false, true, true, true, true, true, true, true, true, true, true, true, false, false, false, true, true, true, true, false, false, false, false, false] rfl rfl (any_of HT_.out Z1h1) (fun _ _ _ h => h) (Or.inl ⟨by rfl, ?_⟩) ?_ ?_
          rotate_left
          ·intro w'
           go_simp
           with_reducible rfl
          rotate_left
          ·simp only [Act.put, List.setIfInBounds_toArray, List.set_cons_zero, List.set_cons_succ, i64_w, i32_w]
           rfl
          refine pure_ (i := 13) (N := some 28) (v := ?_) (a' := ?_) #[true, false, true, true, true, true, true, true, true, true, true, true, true, true, false, false, true, true, true, true, false, false, false, false, false] rfl rfl (any_of HT_.out Z1h1) (fun _ _ _ h => h) (Or.inl ⟨by rfl, ?_⟩) ?_ ?_
          rotate_left
          ·intro w'
           go_simp
           with_reducible rfl
          rotate_left
          ·simp only [Act.put, List.setIfInBounds_toArray, List.set_cons_zero, List.set_cons_succ, i64_w, i32_w]
           rfl
          refine pure_ (i := 14) (N := some 29) (v := ?_) (a' := ?_) #[true, false, true, true, true, true, true, true, true, true, true, true, true, true, true, false, true, true, true, true, false, false, false, false, false] rfl rfl (any_of HT_.out Z1h1) (fun _ _ _ h => h) (Or.inl ⟨by rfl, ?_⟩) ?_ ?_
          rotate_left
          ·intro w'
           go_simp
           with_reducible rfl
          rotate_left
          ·simp only [Act.put, List.setIfInBounds_toArray, List.set_cons_zero, List.set_cons_succ, i64_w, i32_w]
           rfl
          refine take_ (i := 20) (N := some 35) (v := ?_) (a' := ?_) #[true, false, true, true, true, true, true, true, true, true, true, true, true, true, true, false, true, true, true, true, true, false, false, false, false] rfl rfl (take_ofW HT_.out HW_.out Z1h1) (fun _ _ _ h => h) (Or.inl ⟨by rfl, ?_⟩) hHeld ?_ ?_
          rotate_left
          ·rintro w' ⟨s0, s1, s2, s3, s4, s5⟩
           go_simp
           with_reducible rfl
          rotate_left
          ·simp only [Act.put, List.setIfInBounds_toArray, List.set_cons_zero, List.set_cons_succ, i64_w, i32_w]
           rfl
          refine one_ (i := 1) (N := some 16) #[true, true, true, true, true, true, true, true, true, true, true, true, true, true, true, false, true, true, true, true, true, false, false, false, false] rfl rfl (one_of HT_.out Z1h1) (by decide) (fun K hK => ?_)
          refine Kd.R_lit_step (Kd.int .i64) _ 2 ?hg (N := 16) ?hd (xs := ([] : List Int)) (inner := []) (ok := fun _ => True) (okp := fun _ => True) ?hr ?hp (fun _ hk => hk) trivial (Below.refl _ _) (Nat.le_refl _) (by simp) ?_; (case hd => rfl); (case hg => rfl); (case hr => first | (go_simp; done) | (go_simp; rfl)); (case hp => exact (Reps.none _ _))
          intro v102 w12 ho13 hb hg_ hnew_
          clear hg_ hnew_
          (first | rw [← Ny101.out] at ho13 | (simp only [Int.reduceToNat] at ho13; rw [← Ny101.out] at ho13))
          have n0_ := Aside0.mk (Kd.S_elder' Z1h2 (Kd.R_base ho13) hb)
          have n1_ := Aside0.mk (Kd.R_lower ho13 (below_size Z1h3))
          have n2_ := Aside0.mk (below_step Z1h3 hb)
          clear HO_3
          clear HB
          have HO_3 := n0_
          have HO103 := n1_
          have HB := n2_
          clear n0_ n1_ n2_
          clear hb ho13
          refine hK.out _ _ ⟨((HB.out.cell (World.block_lt_of_cell? w _ hw104_0)).trans hw104_0), ((HB.out.cell (World.block_lt_of_cell? w _ hw104_1)).trans hw104_1), ((HB.out.cell (World.block_lt_of_cell? w _ hw105_0)).trans hw105_0), ((HB.out.cell (World.block_lt_of_cell? w _ hw105_1)).trans hw105_1), ((HB.out.cell (World.block_lt_of_cell? w _ hw110_0)).trans hw110_0), ((HB.out.cell (World.block_lt_of_cell? w _ hw110_1)).trans hw110_1)⟩ (fun hHeld => ?_)
          clear hK K
          refine norm_ (a' := ?_) ?_ ?_
          rotate_left
          ·show Act.put _ (some 16) _ = _
           simp only [Act.put, List.setIfInBounds_toArray, List.set_cons_zero, List.set_cons_succ, i64_w, i32_w]
           rfl
          refine one_ (i := 15) (N := some 30) #[true, true, true, true, true, true, true, true, true, true, true, true, true, true, true, true, true, true, true, true, true, false, false, false, false] rfl rfl (one_of HT_.out Z1h1) (by decide) (fun K hK => ?_)
          refine Kd.R_append_rows_step (Kd.int .i64) (w0 := w) w.heap.size (by rfl) (.tmp 16) (.tmp 29) 33 2 (.int .i64 0) 8 rfl Try.underlying33 info2 rfl (by decide) (by omega) v102 y101 (((rd_T38 l0 x4_1).f0).take ((ji5) : Int).toNat) _ _ _ (fun _ => True) (fun _ => False) rfl rfl ?aO ?aR (fun _ _ h => h) (fun _ h => h.elim) ?aF ?aB ?aS ?aL ?_
          (case aR => first | (have hh_ : (((rd_T38 l0 x4_1).f0).take ((ji5) : Int).toNat).length = (ji5).toNat := (by rw [List.length_take]; have h_ : ((ji5) : Int) ≤ (((rd_T38 l0 x4_1).f0).length : Int) := of_decide_eq_true Z1h0; omega); refine Eq.mp (congrArg (fun n_ => ReadsRow _ _ _ _ n_ _) hh_) ?_; repeat (first | exact (Kd.C_below HR106.out HB.out) | (with_reducible refine Kd.C_alloc ?_ _) | (with_reducible refine Kd.C_drewN ?_ _) | (with_reducible refine Kd.C_drew ?_))) | (repeat (first | exact (Kd.C_below HR106.out HB.out) | (with_reducible refine Kd.C_alloc ?_ _) | (with_reducible refine Kd.C_drewN ?_ _) | (with_reducible refine Kd.C_drew ?_))))
          (case aB => exact Z1h3)
          (case aF => exact (fun _ _ => trivial))
          (case aO => exact (by (with_reducible repeat (first | apply Kd.R_alloc | apply Kd.R_drewN | apply Kd.R_drew)); exact HO103.out))
          (case aS => exact (below_size Z1h3))
          (case aL => have := LMc8.out; have hlx_ := (show (((rd_T38 l0 x4_1).f0).take ((ji5) : Int).toNat).length = (ji5).toNat from (by rw [List.length_take]; have h_ : ((ji5) : Int) ≤ (((rd_T38 l0 x4_1).f0).length : Int) := of_decide_eq_true Z1h0; omega)); omega)
          intro v108 w14 ho hb hg hat
          rw [← Ny107.out] at ho
          have n0_ := Aside0.mk (Kd.S_after (ok := (fun _ => True)) Z1h2 hg hat)
          have n1_ := Aside0.mk (hb)
          have n2_ := Aside0.mk (ho)
          clear HO_3
          clear HB
          clear HO103
          have HO_3 := n0_
          have HB := n1_
          have HO109 := n2_
          clear n0_ n1_ n2_
          clear ho hb hg hat
          obtain ⟨Ao15, co15, eo15⟩ := Kd.R_slice HO109.out
          (first | subst eo15 | (injection eo15 with f1_ f2_ f3_; have f4_ := f1_.symm; have f5_ := f3_.symm; clear f1_ f2_ f3_; subst f4_; subst f5_))
          refine hK.out _ _ ⟨((HB.out.cell (World.block_lt_of_cell? w _ hw104_0)).trans hw104_0), ((HB.out.cell (World.block_lt_of_cell? w _ hw104_1)).trans hw104_1), ((HB.out.cell (World.block_lt_of_cell? w _ hw105_0)).trans hw105_0), ((HB.out.cell (World.block_lt_of_cell? w _ hw105_1)).trans hw105_1), ((HB.out.cell (World.block_lt_of_cell? w _ hw110_0)).trans hw110_0), ((HB.out.cell (World.block_lt_of_cell? w _ hw110_1)).trans hw110_1)⟩ (fun hHeld => ?_)
          clear hK K
          refine norm_ (a' := ?_) ?_ ?_
          rotate_left
          ·show Act.put _ (some 30) _ = _
           simp only [Act.put, List.setIfInBounds_toArray, List.set_cons_zero, List.set_cons_succ, i64_w, i32_w]
           rfl
          refine pure_ (i := 21) (N := some 36) (v := ?_) (a' := ?_) #[true, true, true, true, true, true, true, true, true, true, true, true, true, true, true, true, true, true, true, true, true, true, false, false, false] rfl rfl (any_of HT_.out Z1h1) (fun _ _ _ h => h) (Or.inl ⟨by rfl, ?_⟩) ?_ ?_
          rotate_left
          ·intro w'
           go_simp
           with_reducible rfl
          rotate_left
          ·simp only [Act.put, List.setIfInBounds_toArray, List.set_cons_zero, List.set_cons_succ, i64_w, i32_w]
           rfl
          refine one_ (i := 22) (N := some 37) #[true, true, true, true, true, true, true, true, true, true, true, true, true, true, true, true, true, true, true, true, true, true, true, false, false] rfl rfl (one_of HT_.out Z1h1) (by decide) (fun K hK => ?_)
          refine value_ (w1 := ?_) (v := ?_) (by rfl) rfl ?_ ?_
          rotate_left 2
          ·go_simp
           constructor
           ·rfl
           ·rfl
          refine hK.out _ _ ⟨(World.cell?_alloc_lt _ _ _ (World.block_lt_of_cell? _ _ (((HB.out.cell (World.block_lt_of_cell? w _ hw104_0)).trans hw104_0)))).trans (((HB.out.cell (World.block_lt_of_cell? w _ hw104_0)).trans hw104_0)), (World.cell?_alloc_lt _ _ _ (World.block_lt_of_cell? _ _ (((HB.out.cell (World.block_lt_of_cell? w _ hw104_1)).trans hw104_1)))).trans (((HB.out.cell (World.block_lt_of_cell? w _ hw104_1)).trans hw104_1)), (World.cell?_alloc_lt _ _ _ (World.block_lt_of_cell? _ _ (((HB.out.cell (World.block_lt_of_cell? w _ hw105_0)).trans hw105_0)))).trans (((HB.out.cell (World.block_lt_of_cell? w _ hw105_0)).trans hw105_0)), (World.cell?_alloc_lt _ _ _ (World.block_lt_of_cell? _ _ (((HB.out.cell (World.block_lt_of_cell? w _ hw105_1)).trans hw105_1)))).trans (((HB.out.cell (World.block_lt_of_cell? w _ hw105_1)).trans hw105_1)), (World.cell?_alloc_lt _ _ _ (World.block_lt_of_cell? _ _ (((HB.out.cell (World.block_lt_of_cell? w _ hw110_0)).trans hw110_0)))).trans (((HB.out.cell (World.block_lt_of_cell? w _ hw110_0)).trans hw110_0)), (World.cell?_alloc_lt _ _ _ (World.block_lt_of_cell? _ _ (((HB.out.cell (World.block_lt_of_cell? w _ hw110_1)).trans hw110_1)))).trans (((HB.out.cell (World.block_lt_of_cell? w _ hw110_1)).trans hw110_1))⟩ (fun hHeld => ?_)
          clear hK K
          refine norm_ (a' := ?_) ?_ ?_
          rotate_left
          ·show Act.put _ (some 37) _ = _
           simp only [Act.put, List.setIfInBounds_toArray, List.set_cons_zero, List.set_cons_succ, i64_w, i32_w]
           rfl
          refine one_ (i := 23) (N := some 38) #[true, true, true, true, true, true, true, true, true, true, true, true, true, true, true, true, true, true, true, true, true, true, true, true, false] rfl rfl (one_of HT_.out Z1h1) (by decide) (fun K hK => ?_)
          refine Kd.S_append_step k38 (w0 := w) w.heap.size (by rfl) (.tmp 15) (.tmp 37) 22 38 (.agg #[(.slice none 0 0), (.int .i64 0)]) 32 rfl Try.underlying22 info38 rfl (by decide) (by omega) u3 x3_1 (⟨y107, (rd_T38 l0 x4_1).f1⟩ : S38) [.slice Ao15 y107.length co15, .int .i64 ((rd_T38 l0 x4_1).f1)] (fun _ => True) (fun k_ => some k_ = (.slice Ao15 y107.length co15 : Value).ownBlock) rfl rfl ?aP (fun k_ hk_ => ((Kd.R_mono (ok' := fun k_ => ((fun _ => True)) k_ ∧ some k_ ≠ (u3 : Value).ownBlock) (Kd.R_apart' (HO109.out) (Kd.S_typed HO_3.out) (by decide)) (fun k_ hk => ⟨trivial, hk.2⟩))).1 k_ hk_.symm) ?aF ?aO ?aB ?aS ?aL ?_
          (case aP => exact k38_mkM _ _ _ (⟨y107, (rd_T38 l0 x4_1).f1⟩ : S38) (Kd.R_mono (Kd.R_tight rfl (Kd.R_mono (ok' := fun k_ => ((fun _ => True)) k_ ∧ some k_ ≠ (u3 : Value).ownBlock) (Kd.R_apart' (HO109.out) (Kd.S_typed HO_3.out) (by decide)) (fun k_ hk => ⟨trivial, hk.2⟩))) (fun _ h_ => h_)))
          (case aB => exact Z1h3)
          (case aF => exact (fun _ _ => trivial))
          (case aO => exact (by (with_reducible repeat (first | apply Kd.S_alloc | apply Kd.S_drewN | apply Kd.S_drew)); exact Kd.S_mono HO_3.out (fun k_ hk => ⟨trivial, fun e_ => hk.2 e_⟩)))
          (case aS => exact (below_size Z1h3))
          (case aL => have := LMc9.out; omega)
          intro v112 w16 ho hb hg hat
          rw [← Ny111.out] at ho
          have n0_ := Aside0.mk (hb)
          have n1_ := Aside0.mk (ho)
          clear HB
          clear HO_3
          clear HO109
          have HB := n0_
          have HO113 := n1_
          clear n0_ n1_
          clear ho hb hg hat
          refine hK.out _ _ ⟨((HB.out.cell (World.block_lt_of_cell? w _ hw104_0)).trans hw104_0), ((HB.out.cell (World.block_lt_of_cell? w _ hw104_1)).trans hw104_1), ((HB.out.cell (World.block_lt_of_cell? w _ hw105_0)).trans hw105_0), ((HB.out.cell (World.block_lt_of_cell? w _ hw105_1)).trans hw105_1), ((HB.out.cell (World.block_lt_of_cell? w _ hw110_0)).trans hw110_0), ((HB.out.cell (World.block_lt_of_cell? w _ hw110_1)).trans hw110_1)⟩ (fun hHeld => ?_)
          clear hK K
          refine norm_ (a' := ?_) ?_ ?_
          rotate_left
          ·show Act.put _ (some 38) _ = _
           simp only [Act.put, List.setIfInBounds_toArray, List.set_cons_zero, List.set_cons_succ, i64_w, i32_w]
           rfl
          refine pure_ (i := 24) (N := some 3) (v := ?_) (a' := ?_) #[true, true, true, true, true, true, true, true, true, true, true, true, true, true, true, true, true, true, true, true, true, true, true, true, true] rfl rfl (any_of HT_.out Z1h1) (fun _ _ _ h => h) (Or.inl ⟨by rfl, ?_⟩) ?_ ?_
          rotate_left
          ·intro w'
           go_simp
           with_reducible rfl
          rotate_left
          ·simp only [Act.put, List.setIfInBounds_toArray, List.set_cons_zero, List.set_cons_succ, i64_w, i32_w]
           rfl
          refine done_ (done_of HT_.out Z1h1) ?_
          try go_wp2
          go_roundg k1
          case measure => have := HK1.out; omega
          case rel => exact ⟨(y111), (wrap64 (x4_1 + 1)), (by first | rfl | (simp; done) | (simp [*]; done)), H', ⟨by have := HK1.out; omega⟩, ⟨by (with_reducible repeat (first | apply Kd.S_alloc | apply Kd.S_drewN | apply Kd.S_drew)); exact HO113.out⟩, ⟨by repeat (first | (with_reducible first | exact HB.out | apply below_alloc | apply pw_below_drewN | apply below_drew1) | exact HB.out)⟩⟩
         ·rw [if_neg c9] at H
          exact absurd H (by simp)
        ·rw [if_neg c8] at H
         exact absurd H (by simp)
       ·rw [if_neg c7] at H
        exact absurd H (by simp)
      ·rw [if_neg c6] at H
       exact absurd H (by simp)
     ·rw [if_neg c4] at H
      exact absurd H (by simp)
    ·rw [if_neg c3] at H
     have c3b0 : decide (x4_1 < 20) = false := decide_eq_false c3
     clear c3
     obtain rfl := Option.some.inj H
     go_wp2
     go_ret
     exact ⟨_, by first | rfl | (simp [errW_none, errW_some] <;> rfl) | (simp [*, errW_none, errW_some] <;> rfl), by (with_reducible repeat (first | apply Kd.S_alloc | apply Kd.S_drewN | apply Kd.S_drew)); exact HO_3.out, by repeat (first | (with_reducible first | exact HB.out | apply below_alloc | apply pw_below_drewN | apply below_drew1) | exact HB.out)⟩
   ·rw [if_neg c2] at H
    have c2b0 : decide (x4_1 < (l0.length : Int)) = false := decide_eq_false c2
    clear c2
    obtain rfl := Option.some.inj H
    go_wp2
    go_ret
    exact ⟨_, by first | rfl | (simp [errW_none, errW_some] <;> rfl) | (simp [*, errW_none, errW_some] <;> rfl), by (with_reducible repeat (first | apply Kd.S_alloc | apply Kd.S_drewN | apply Kd.S_drew)); exact HO_3.out, by repeat (first | (with_reducible first | exact HB.out | apply below_alloc | apply pw_below_drewN | apply below_drew1) | exact HB.out)⟩
end Go.Proofs.Ytdkbnbebioflaaa.LnFew
end

section
/- What few answers; its contract. -/
namespace Go.Proofs.Ytdkbnbebioflaaa.Ln
set_option linter.unusedVariables false
def cut (r : S38) : S38 := ⟨r.f0.take 70, r.f1⟩
def fewL (l : List S38) : List S38 := (l.take 20).map cut
theorem rowIn_few {l : List S38} (h : ∀ r, r ∈ l → Given.RowIn r) : ∀ r, r ∈ fewL l → Given.RowIn r := by
 intro r hr
 obtain ⟨s, hs, rfl⟩ := List.mem_map.1 hr
 have := h s (List.mem_of_mem_take hs)
 exact ⟨this.1, fun x hx => this.2 x (List.mem_of_mem_take hx)⟩
theorem fewL_len (l : List S38) : (fewL l).length ≤ 20 := by unfold fewL; rw [List.length_map, List.length_take]; exact Nat.min_le_left _ _
end Go.Proofs.Ytdkbnbebioflaaa.Ln
namespace Go.Proofs.Ytdkbnbebioflaaa.LnFew
open Go.RowKit Go.Proofs.Ytdkbnbebioflaaa.Num Go.Proofs.Ytdkbnbebioflaaa.Given Go.Proofs.Ytdkbnbebioflaaa.Lin Go.Proofs.Ytdkbnbebioflaaa.Ln Go.Proofs.YtdkbnbebioflaaaW.PrintWords Go.Proofs.YtdkbnbebioflaaaW.PrintLast Go.Proofs.YtdkbnbebioflaaaW.PrintMore
theorem few_from (l : List S38) : ∀ (d i k : Nat) (acc : List S38), i + d = min l.length 20 → acc.length = i → d < k → ashlarlaw11_few.l0 k l acc (i : Int) = some (acc ++ ((l.take 20).drop i).map cut)
 | 0, i, k + 1, acc, hi, ha, hk => by
  have hd : (l.take 20).drop i = [] := List.drop_of_length_le (by rw [List.length_take]; omega)
  rw [hd, List.map_nil, List.append_nil, ashlarlaw11_few.l0]
  by_cases h1 : (i : Int) < (l.length : Int)
  ·rw [if_pos h1, if_neg (by omega)]
  ·rw [if_neg h1]
 | d + 1, i, k + 1, acc, hi, ha, hk => by
  have hil : i < l.length := by omega
  have hlt : i < (l.take 20).length := by rw [List.length_take]; omega
  have e0 : rd_T38 l (i : Int) = l[i] := by simp [rd_T38, List.getElem?_eq_getElem hil]
  have em : mn (((l[i]).f0).length : Int) 70 = ((min l[i].f0.length 70 : Nat) : Int) := by unfold mn; split <;> omega
  rw [ashlarlaw11_few.l0, if_pos (by omega), if_pos (by omega), Option.bind_some, if_pos (by omega), e0, em, if_pos (by omega), if_pos (by omega), if_pos (by simp; omega), if_pos (by omega), show wrap64 ((i : Int) + 1) = ((i + 1 : Nat) : Int) from wrapj (by omega),
   few_from l d (i + 1) k _ (by omega) (by simp [ha]) (by omega), List.drop_eq_getElem_cons hlt, List.map_cons, List.append_assoc, List.getElem_take]
  have e1 : (([] : List Int) ++ l[i].f0.take ((min l[i].f0.length 70 : Nat) : Int).toNat) = l[i].f0.take 70 := by
   rw [List.nil_append, Int.toNat_natCast]
   rcases Nat.le_total l[i].f0.length 70 with h | h
   ·rw [Nat.min_eq_left h, List.take_of_length_le (Nat.le_refl _), List.take_of_length_le h]
   ·rw [Nat.min_eq_right h]
  rw [e1]
  rfl
theorem few_is (l : List S38) {k : Nat} (hk : 21 ≤ k) : ashlarlaw11_few.f k l = some (fewL l) := by
 unfold ashlarlaw11_few.f
 exact few_from l (min l.length 20) 0 k [] (by omega) rfl (by omega)
end Go.Proofs.Ytdkbnbebioflaaa.LnFew
namespace Go.Proofs.Ytdkbnbebioflaaa.Given
open Go.RowKit Go.Proofs.Ytdkbnbebioflaaa.Ln Go.Proofs.YtdkbnbebioflaaaW.PrintWords
def ashlarlaw11_few.f (l0 : List S38) : Option (List S38) := some (fewL l0)
theorem ashlarlaw11_few.calls (A0 : Option Addr) (c0 : Nat) (l0 : List S38) (r : List S38) (w : World) (hr0 : Kd.C k38 w A0 l0.length l0) (hc0 : l0.length ≤ c0) (h : ashlarlaw11_few.f l0 = some r) :
  Calls Try.prog 7 #[.slice A0 l0.length c0] w fun e w' => ∃ v0_ : Value, e = .returned (v0_) ∧ Kd.S k38 38 w' w.heap.size (fun _ => True) v0_ r ∧ Below w.heap.size w w' :=
 LnFew.ashlarlaw11_few.calls 21 A0 c0 l0 r w hr0 hc0 ((LnFew.few_is l0 (Nat.le_refl _)).trans h)
end Go.Proofs.Ytdkbnbebioflaaa.Given
end
