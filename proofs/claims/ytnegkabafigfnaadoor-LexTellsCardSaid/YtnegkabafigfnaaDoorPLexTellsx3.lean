-- Written by a program of this session (myprint.py) out of the translation, with contracts of this session given.
import Derived.Test.YtnegkabafigfnaaDoorPLexTellsx0
import Derived.Test.YtnegkabafigfnaaDoorPLexTellsx1
import Derived.Test.YtnegkabafigfnaaDoorPLexTellsx2
namespace Go.Proofs.YtnegkabafigfnaaDoor.PLexTells
open Go.RowKit Go.Proofs.YtnegkabafigfnaaDoor.Given Go.Proofs.YtnegkabafigfnaaDoorW.PrintWords Go.Proofs.YtnegkabafigfnaaDoorW.PrintLast Go.Proofs.YtnegkabafigfnaaDoorW.PrintMore
attribute [local go_sem] max2_int min2_int max_two min_two max_three min_three max_four min_four   -- for this text's walks alone
set_option linter.unusedVariables false
set_option linter.unusedSimpArgs false

/-! ### ashlarref15_Lex: function 12 -/
mutual
def ashlarref15_Lex.l0 : Nat → ByteArray → List (S44) → Int → Option ((List (S44)) × Int × Int)
  | 0, _, _, _ => none
  | k + 1, x0, x5, x6 => if x6 < (x0.size : Int) then (if 0 ≤ x6 then ((ashlarref15_space.f (bt x0 x6)).bind fun t144 => (if t144 = true then (ashlarref15_Lex.l0 k x0 x5 (wrap64 (x6 + 1))) else (if (bt x0 x6) = 59 then (ashlarref15_Lex.l1 k x0 x5 x6) else (if (bt x0 x6) = 40 then (if x5.length < 4398046511104 then (ashlarref15_Lex.l0 k x0 (x5 ++ [(⟨1, (⟨#[40]⟩ : ByteArray), x6⟩ : S44)]) (wrap64 (x6 + 1))) else (none)) else (if (bt x0 x6) = 41 then (if x5.length < 4398046511104 then (ashlarref15_Lex.l0 k x0 (x5 ++ [(⟨2, (⟨#[41]⟩ : ByteArray), x6⟩ : S44)]) (wrap64 (x6 + 1))) else (none)) else ((ashlarref15_letter.f (bt x0 x6)).bind fun t151 => (if t151 = true then (ashlarref15_Lex.j2 k x0 x5 x6 (bt x0 x6) x6 true) else ((ashlarref15_digit.f (bt x0 x6)).bind fun t152 => (if t152 = true then (ashlarref15_Lex.j2 k x0 x5 x6 (bt x0 x6) x6 true) else (ashlarref15_Lex.j2 k x0 x5 x6 (bt x0 x6) x6 ((bt x0 x6) == 45))))))))))) else (none)) else (some (x5, x6, 0))
def ashlarref15_Lex.l1 : Nat → ByteArray → List (S44) → Int → Option ((List (S44)) × Int × Int)
  | 0, _, _, _ => none
  | k + 1, x0, x5, x6 => if x6 < (x0.size : Int) then (if 0 ≤ x6 then (if (bt x0 x6) = 10 then (ashlarref15_Lex.l0 k x0 x5 x6) else (ashlarref15_Lex.l1 k x0 x5 (wrap64 (x6 + 1)))) else (none)) else (ashlarref15_Lex.l0 k x0 x5 x6)
def ashlarref15_Lex.j2 : Nat → ByteArray → List (S44) → Int → Int → Int → Bool → Option ((List (S44)) × Int × Int)
  | 0, _, _, _, _, _, _ => none
  | k + 1, x0, x5, x6, x7, x8, x31 => if x31 = true then ((ashlarref15_word.f k x0 x6).bind fun t153 => (ashlarref15_Lex.j3 k x0 x5 x6 x7 t153)) else (ashlarref15_Lex.j3 k x0 x5 x6 x7 x8)
def ashlarref15_Lex.j3 : Nat → ByteArray → List (S44) → Int → Int → Int → Option ((List (S44)) × Int × Int)
  | 0, _, _, _, _, _ => none
  | k + 1, x0, x5, x6, x7, x8 => if x8 = x6 then (some (([] : List (S44)), x6, 2)) else ((ashlarref15_letter.f x7).bind fun t154 => (if t154 = true then (if 0 ≤ x6 then (if x6 ≤ x8 then (if x8 ≤ (x0.size : Int) then (if x5.length < 4398046511104 then (ashlarref15_Lex.l0 k x0 (x5 ++ [(⟨3, x0.extract (x6 : Int).toNat (x8 : Int).toNat, x6⟩ : S44)]) x8) else (none)) else (none)) else (none)) else (none)) else (if 0 ≤ x6 then (if x6 ≤ x8 then (if x8 ≤ (x0.size : Int) then (if x5.length < 4398046511104 then (ashlarref15_Lex.l0 k x0 (x5 ++ [(⟨4, x0.extract (x6 : Int).toNat (x8 : Int).toNat, x6⟩ : S44)]) x8) else (none)) else (none)) else (none)) else (none))))
end
def ashlarref15_Lex.f (k : Nat) (a0 : ByteArray) : Option ((List (S44)) × Int × Int) := if (a0.size : Int) > 20000 then (some (([] : List (S44)), 0, 7)) else (ashlarref15_Lex.l0 k a0 (([] : List (S44))) 0)
theorem ashlarref15_Lex.mono_l : ∀ k, (∀ y0 y1 y2, LeO (ashlarref15_Lex.l0 k y0 y1 y2) (ashlarref15_Lex.l0 (k + 1) y0 y1 y2)) ∧ (∀ y0 y1 y2, LeO (ashlarref15_Lex.l1 k y0 y1 y2) (ashlarref15_Lex.l1 (k + 1) y0 y1 y2)) ∧ (∀ y0 y1 y2 y3 y4 y5, LeO (ashlarref15_Lex.j2 k y0 y1 y2 y3 y4 y5) (ashlarref15_Lex.j2 (k + 1) y0 y1 y2 y3 y4 y5)) ∧ (∀ y0 y1 y2 y3 y4, LeO (ashlarref15_Lex.j3 k y0 y1 y2 y3 y4) (ashlarref15_Lex.j3 (k + 1) y0 y1 y2 y3 y4))
  | 0 => ⟨fun _ _ _ r h => by simp [ashlarref15_Lex.l0] at h, fun _ _ _ r h => by simp [ashlarref15_Lex.l1] at h, fun _ _ _ _ _ _ r h => by simp [ashlarref15_Lex.j2] at h, fun _ _ _ _ _ r h => by simp [ashlarref15_Lex.j3] at h⟩
  | k + 1 => by
    obtain ⟨ih0, ih1, ih2, ih3⟩ := ashlarref15_Lex.mono_l k
    refine ⟨?_, ?_, ?_, ?_⟩
    · intro y0 y1 y2
      unfold ashlarref15_Lex.l0
      repeat' first
      | (with_reducible exact ih0 _ _ _)
      | (with_reducible exact ih1 _ _ _)
      | (with_reducible exact ih2 _ _ _ _ _ _)
      | (with_reducible exact ih3 _ _ _ _ _)
      | (with_reducible exact ashlarref15_word.mono _ _ _)
      | (with_reducible exact LeO.refl _)
      | (with_reducible exact LeO.none _)
      | (with_reducible refine LeO.ite ?_ ?_)
      | (with_reducible refine LeO.bind ?_ (fun _ => ?_))
      | exact ih0 _ _ _
      | exact ih1 _ _ _
      | exact ih2 _ _ _ _ _ _
      | exact ih3 _ _ _ _ _
      | exact ashlarref15_word.mono _ _ _
      | exact LeO.none _
      | refine LeO.ite ?_ ?_
      | refine LeO.bind ?_ (fun _ => ?_)
    · intro y0 y1 y2
      unfold ashlarref15_Lex.l1
      repeat' first
      | (with_reducible exact ih0 _ _ _)
      | (with_reducible exact ih1 _ _ _)
      | (with_reducible exact ih2 _ _ _ _ _ _)
      | (with_reducible exact ih3 _ _ _ _ _)
      | (with_reducible exact ashlarref15_word.mono _ _ _)
      | (with_reducible exact LeO.refl _)
      | (with_reducible exact LeO.none _)
      | (with_reducible refine LeO.ite ?_ ?_)
      | (with_reducible refine LeO.bind ?_ (fun _ => ?_))
      | exact ih0 _ _ _
      | exact ih1 _ _ _
      | exact ih2 _ _ _ _ _ _
      | exact ih3 _ _ _ _ _
      | exact ashlarref15_word.mono _ _ _
      | exact LeO.none _
      | refine LeO.ite ?_ ?_
      | refine LeO.bind ?_ (fun _ => ?_)
    · intro y0 y1 y2 y3 y4 y5
      unfold ashlarref15_Lex.j2
      repeat' first
      | (with_reducible exact ih0 _ _ _)
      | (with_reducible exact ih1 _ _ _)
      | (with_reducible exact ih2 _ _ _ _ _ _)
      | (with_reducible exact ih3 _ _ _ _ _)
      | (with_reducible exact ashlarref15_word.mono _ _ _)
      | (with_reducible exact LeO.refl _)
      | (with_reducible exact LeO.none _)
      | (with_reducible refine LeO.ite ?_ ?_)
      | (with_reducible refine LeO.bind ?_ (fun _ => ?_))
      | exact ih0 _ _ _
      | exact ih1 _ _ _
      | exact ih2 _ _ _ _ _ _
      | exact ih3 _ _ _ _ _
      | exact ashlarref15_word.mono _ _ _
      | exact LeO.none _
      | refine LeO.ite ?_ ?_
      | refine LeO.bind ?_ (fun _ => ?_)
    · intro y0 y1 y2 y3 y4
      unfold ashlarref15_Lex.j3
      repeat' first
      | (with_reducible exact ih0 _ _ _)
      | (with_reducible exact ih1 _ _ _)
      | (with_reducible exact ih2 _ _ _ _ _ _)
      | (with_reducible exact ih3 _ _ _ _ _)
      | (with_reducible exact ashlarref15_word.mono _ _ _)
      | (with_reducible exact LeO.refl _)
      | (with_reducible exact LeO.none _)
      | (with_reducible refine LeO.ite ?_ ?_)
      | (with_reducible refine LeO.bind ?_ (fun _ => ?_))
      | exact ih0 _ _ _
      | exact ih1 _ _ _
      | exact ih2 _ _ _ _ _ _
      | exact ih3 _ _ _ _ _
      | exact ashlarref15_word.mono _ _ _
      | exact LeO.none _
      | refine LeO.ite ?_ ?_
      | refine LeO.bind ?_ (fun _ => ?_)
theorem ashlarref15_Lex.mono : ∀ a0 k, LeO (ashlarref15_Lex.f k a0) (ashlarref15_Lex.f (k + 1) a0) := by
  intro a0 k
  obtain ⟨ih0, ih1, ih2, ih3⟩ := ashlarref15_Lex.mono_l k
  unfold ashlarref15_Lex.f
  repeat' first
      | (with_reducible exact ih0 _ _ _)
      | (with_reducible exact ih1 _ _ _)
      | (with_reducible exact ih2 _ _ _ _ _ _)
      | (with_reducible exact ih3 _ _ _ _ _)
      | (with_reducible exact ashlarref15_word.mono _ _ _)
      | (with_reducible exact LeO.refl _)
      | (with_reducible exact LeO.none _)
      | (with_reducible refine LeO.ite ?_ ?_)
      | (with_reducible refine LeO.bind ?_ (fun _ => ?_))
      | exact ih0 _ _ _
      | exact ih1 _ _ _
      | exact ih2 _ _ _ _ _ _
      | exact ih3 _ _ _ _ _
      | exact ashlarref15_word.mono _ _ _
      | exact LeO.none _
      | refine LeO.ite ?_ ?_
      | refine LeO.bind ?_ (fun _ => ?_)
set_option maxHeartbeats 8000000 in
set_option maxRecDepth 100000 in
theorem ashlarref15_Lex.calls (k : Nat) (a0 : ByteArray) (r1 : List (S44)) (r2 : Int) (r3 : Int) (w : World) (h : ashlarref15_Lex.f k a0 = some (r1, r2, r3)) :
    Calls Tryd.prog 12 #[.string a0] w fun e w' => ∃ v0_ : Value, e = .returned (.tuple #[v0_, .int .i64 r2, .int .i64 r3]) ∧ Kd.R k44 44 w' w.heap.size (fun _ => True) v0_ r1 ∧ Below w.heap.size w w' := by
  have hu44 := Tryd.underlying44
  have HB := Aside0.mk (Below.refl w.heap.size w)
  have H : (if (a0.size : Int) > 20000 then (some (([] : List (S44)), 0, 7)) else (ashlarref15_Lex.l0 k a0 (([] : List (S44))) 0)) = some (r1, r2, r3) := h
  clear h
  by_cases c2 : (a0.size : Int) > 20000
  · rw [if_pos c2] at H
    have c2b0 : decide (20000 < (a0.size : Int)) = true := decide_eq_true c2
    have c2b1 : decide (20000 < a0.size) = true := decide_eq_true (by omega)
    clear c2
    simp only [Option.some.injEq, Prod.mk.injEq] at H
    obtain ⟨rfl, rfl, rfl⟩ := H
    go_enter Tryd.func12, Tryd.ntmps12
    go_wp2
    go_ret3
    exact ⟨_, by first | rfl | (simp [errW_none, errW_some] <;> rfl) | (simp [*, errW_none, errW_some] <;> rfl), by first | exact Kd.R_nil _ _ _ _ _ | exact Kd.N_nil _ _ _ _ _ | exact Kd.V_nil _ _ _ _ _ | exact Kd.Q_nil _ _ _ _ _ | exact Kd.S_nil _ _ _ _ _, by repeat (first | (with_reducible first | exact HB.out | apply below_alloc | apply pw_below_drewN | apply below_drew1) | exact HB.out)⟩
  · rw [if_neg c2] at H
    have c2b0 : decide (20000 < (a0.size : Int)) = false := decide_eq_false c2
    have c2b1 : decide (20000 < a0.size) = false := decide_eq_false (by omega)
    clear c2
    obtain ⟨y141, hy141⟩ : ∃ y_ : List (S44), y_ = (([] : List (S44))) := ⟨_, rfl⟩
    replace H : (ashlarref15_Lex.l0 k a0 y141 0) = some (r1, r2, r3) := by first | (rw [hy141]; with_reducible exact H) | (have H2_ := (Option.bind_some _ _).symm.trans H; rw [hy141]; with_reducible exact H2_) | (have H2_ := (Option.bind_some _ _).symm.trans H; with_reducible exact H2_) | with_reducible exact H | (rw [hy141]; exact H) | exact H
    have Ny141 := Aside0.mk hy141
    clear hy141
    have H' := Aside0.mk H
    clear H
    go_enter Tryd.func12, Tryd.ntmps12
    go_wp2_with (first | ((with_reducible refine gate_dst (N := 13) rfl ?_); refine Kd.R_lit k44 _ 44 ?hg (N := 13) ?hd (xs := ([] : List (S44))) (inner := []) (ok := fun _ => True) (okp := fun _ => True) ?hr ?hp (fun _ hk => hk) trivial (Below.refl _ _) (Nat.le_refl _) (by simp) ?_; (case hd => rfl); (case hg => rfl); (case hr => first | (go_simp; done) | (go_simp; rfl)); (case hp => exact (Reps.none _ _)); intro v142 w3 ho4 hb hg_ hnew_; clear hg_ hnew_; (first | rw [← Ny141.out] at ho4 | (simp only [Int.reduceToNat] at ho4; rw [← Ny141.out] at ho4)); have n0_ := Aside0.mk (Kd.R_lower ho4 (below_size (by repeat (first | (with_reducible first | exact HB.out | apply below_alloc | apply pw_below_drewN | apply below_drew1) | exact HB.out)))); have n1_ := Aside0.mk (below_step (by repeat (first | (with_reducible first | exact HB.out | apply below_alloc | apply pw_below_drewN | apply below_drew1) | exact HB.out)) hb); clear HB; have HO143 := n0_; have HB := n1_; clear n0_ n1_; clear hb ho4))
    go_loopg [5, 6] k (fun kq v5 v6 w' => ∃ (x5_1 : List (S44)) (x6_1 : Int), v6 = .int .i64 x6_1 ∧ Aside0 (ashlarref15_Lex.l0 kq a0 x5_1 x6_1 = some (r1, r2, r3)) ∧ Aside0 (kq ≤ k) ∧ Aside0 (Kd.R k44 44 w' w.heap.size (fun _ => True) v5 x5_1) ∧ Aside0 (Below w.heap.size w w'))
    case atStart => exact ⟨(y141), (0), (by first | rfl | (simp; done) | (simp [*]; done)), H', ⟨Nat.le_refl _⟩, ⟨by (with_reducible repeat (first | apply Kd.R_alloc | apply Kd.R_drewN | apply Kd.R_drew)); exact HO143.out⟩, ⟨by repeat (first | (with_reducible first | exact HB.out | apply below_alloc | apply pw_below_drewN | apply below_drew1) | exact HB.out)⟩⟩
    case round =>
      clear H'
      try clear c1
      try clear c2
      try clear c2b0
      try clear c2b1
      try clear p2
      obtain ⟨x5_1, x6_1, rfl, HA, HK1, HO_5, HB⟩ := hrel
      cases gk with
      | zero => exact absurd HA.out (by simp [ashlarref15_Lex.l0])
      | succ k1 =>
        have H := HA.out
        clear HA
        simp only [ashlarref15_Lex.l0] at H
        by_cases c5 : x6_1 < (a0.size : Int)
        · rw [if_pos c5] at H
          have c5b0 : decide (x6_1 < (a0.size : Int)) = true := decide_eq_true c5
          clear c5
          by_cases c6 : 0 ≤ x6_1
          · rw [if_pos c6] at H
            have c6b0 : decide (0 ≤ x6_1) = true := decide_eq_true c6
            clear c6
            replace H := Option.bind_eq_some_iff.mp H
            obtain ⟨t144, A80, H⟩ := H
            replace H : (if t144 = true then (ashlarref15_Lex.l0 k1 a0 x5_1 (wrap64 (x6_1 + 1))) else (if (bt a0 x6_1) = 59 then (ashlarref15_Lex.l1 k1 a0 x5_1 x6_1) else (if (bt a0 x6_1) = 40 then (if x5_1.length < 4398046511104 then (ashlarref15_Lex.l0 k1 a0 (x5_1 ++ [(⟨1, (⟨#[40]⟩ : ByteArray), x6_1⟩ : S44)]) (wrap64 (x6_1 + 1))) else (none)) else (if (bt a0 x6_1) = 41 then (if x5_1.length < 4398046511104 then (ashlarref15_Lex.l0 k1 a0 (x5_1 ++ [(⟨2, (⟨#[41]⟩ : ByteArray), x6_1⟩ : S44)]) (wrap64 (x6_1 + 1))) else (none)) else ((ashlarref15_letter.f (bt a0 x6_1)).bind fun t151 => (if t151 = true then (ashlarref15_Lex.j2 k1 a0 x5_1 x6_1 (bt a0 x6_1) x6_1 true) else ((ashlarref15_digit.f (bt a0 x6_1)).bind fun t152 => (if t152 = true then (ashlarref15_Lex.j2 k1 a0 x5_1 x6_1 (bt a0 x6_1) x6_1 true) else (ashlarref15_Lex.j2 k1 a0 x5_1 x6_1 (bt a0 x6_1) x6_1 ((bt a0 x6_1) == 45)))))))))) = some (r1, r2, r3) := H
            have A8 := Aside0.mk A80
            clear A80
            by_cases c9 : t144 = true
            · subst c9
              have H1 : (ashlarref15_Lex.l0 k1 a0 x5_1 (wrap64 (x6_1 + 1))) = some (r1, r2, r3) := by rw [if_pos rfl] at H; exact H
              clear H
              have H := H1
              clear H1
              have H' := Aside0.mk H
              clear H
              have p7 : 0 ≤ (x6_1 : Int) := of_decide_eq_true (by first | (with_reducible assumption) | assumption)
              have q7 : x6_1 < (a0.size : Int) := of_decide_eq_true (by first | (with_reducible assumption) | assumption)
              have hx7 := bt_at a0 x6_1
              replace p7 := eq_true p7
              replace q7 := eq_true q7
              go_wp2_with (first | (go_at_call 20; (with_reducible refine (ashlarref15_space.calls (bt a0 x6_1) true _ A8.out).mono ?_); rintro e w' ⟨rfl, ⟨nd, rfl⟩⟩))
              go_roundg k1
              case measure => have := HK1.out; omega
              case rel => exact ⟨(x5_1), (wrap64 (x6_1 + 1)), (by first | rfl | (simp; done) | (simp [*]; done)), H', ⟨by have := HK1.out; omega⟩, ⟨by (with_reducible repeat (first | apply Kd.R_alloc | apply Kd.R_drewN | apply Kd.R_drew)); exact HO_5.out⟩, ⟨by repeat (first | (with_reducible first | exact HB.out | apply below_alloc | apply pw_below_drewN | apply below_drew1) | exact HB.out)⟩⟩
            · replace c9 := Bool.eq_false_iff.mpr c9
              subst c9
              have H1 : (if (bt a0 x6_1) = 59 then (ashlarref15_Lex.l1 k1 a0 x5_1 x6_1) else (if (bt a0 x6_1) = 40 then (if x5_1.length < 4398046511104 then (ashlarref15_Lex.l0 k1 a0 (x5_1 ++ [(⟨1, (⟨#[40]⟩ : ByteArray), x6_1⟩ : S44)]) (wrap64 (x6_1 + 1))) else (none)) else (if (bt a0 x6_1) = 41 then (if x5_1.length < 4398046511104 then (ashlarref15_Lex.l0 k1 a0 (x5_1 ++ [(⟨2, (⟨#[41]⟩ : ByteArray), x6_1⟩ : S44)]) (wrap64 (x6_1 + 1))) else (none)) else ((ashlarref15_letter.f (bt a0 x6_1)).bind fun t151 => (if t151 = true then (ashlarref15_Lex.j2 k1 a0 x5_1 x6_1 (bt a0 x6_1) x6_1 true) else ((ashlarref15_digit.f (bt a0 x6_1)).bind fun t152 => (if t152 = true then (ashlarref15_Lex.j2 k1 a0 x5_1 x6_1 (bt a0 x6_1) x6_1 true) else (ashlarref15_Lex.j2 k1 a0 x5_1 x6_1 (bt a0 x6_1) x6_1 ((bt a0 x6_1) == 45))))))))) = some (r1, r2, r3) := by rw [if_neg (show ¬ (false = true) by decide)] at H; exact H
              clear H
              have H := H1
              clear H1
              by_cases c10 : (bt a0 x6_1) = 59
              · rw [if_pos c10] at H
                have c10b0 : ((bt a0 x6_1) == 59) = true := beq_iff_eq.mpr c10
                have c10b1 : ((bt a0 x6_1) != 59) = false := bne_eq_false_iff_eq.mpr c10
                clear c10
                have H' := Aside0.mk H
                clear H
                have p7 : 0 ≤ (x6_1 : Int) := of_decide_eq_true (by first | (with_reducible assumption) | assumption)
                have q7 : x6_1 < (a0.size : Int) := of_decide_eq_true (by first | (with_reducible assumption) | assumption)
                have hx7 := bt_at a0 x6_1
                replace p7 := eq_true p7
                replace q7 := eq_true q7
                go_wp2_with (first | (go_at_call 20; (with_reducible refine (ashlarref15_space.calls (bt a0 x6_1) false _ A8.out).mono ?_); rintro e w' ⟨rfl, ⟨nd, rfl⟩⟩))
                go_loopg [6] k1 (fun kq v6 w' => ∃ (x6_2 : Int), v6 = .int .i64 x6_2 ∧ Aside0 (ashlarref15_Lex.l1 kq a0 x5_1 x6_2 = some (r1, r2, r3)) ∧ Aside0 (kq ≤ k1) ∧ Aside0 (Kd.R k44 44 w' w.heap.size (fun _ => True) u5 x5_1) ∧ Aside0 (Below w.heap.size w w'))
                case atStart => exact ⟨(x6_1), (by first | rfl | (simp; done) | (simp [*]; done)), H', ⟨Nat.le_refl _⟩, ⟨by (with_reducible repeat (first | apply Kd.R_alloc | apply Kd.R_drewN | apply Kd.R_drew)); exact HO_5.out⟩, ⟨by repeat (first | (with_reducible first | exact HB.out | apply below_alloc | apply pw_below_drewN | apply below_drew1) | exact HB.out)⟩⟩
                case round =>
                  clear H'
                  try clear c1
                  try clear c2
                  try clear c2b0
                  try clear c2b1
                  try clear p2
                  try clear c5
                  try clear c5b0
                  try clear c6
                  try clear c6b0
                  try clear p6
                  try clear p7
                  try clear q7
                  try clear hx7
                  try clear c9
                  try clear c10
                  try clear c10b0
                  try clear c10b1
                  try clear p2
                  try clear p7
                  try clear q7
                  obtain ⟨x6_2, rfl, HA, HK2, HO_5, HB⟩ := hrel
                  cases gk with
                  | zero => exact absurd HA.out (by simp [ashlarref15_Lex.l1])
                  | succ k2 =>
                    have H := HA.out
                    clear HA
                    simp only [ashlarref15_Lex.l1] at H
                    by_cases c11 : x6_2 < (a0.size : Int)
                    · rw [if_pos c11] at H
                      have c11b0 : decide (x6_2 < (a0.size : Int)) = true := decide_eq_true c11
                      clear c11
                      by_cases c12 : 0 ≤ x6_2
                      · rw [if_pos c12] at H
                        have c12b0 : decide (0 ≤ x6_2) = true := decide_eq_true c12
                        clear c12
                        by_cases c14 : (bt a0 x6_2) = 10
                        · rw [if_pos c14] at H
                          have c14b0 : ((bt a0 x6_2) == 10) = true := beq_iff_eq.mpr c14
                          have c14b1 : ((bt a0 x6_2) != 10) = false := bne_eq_false_iff_eq.mpr c14
                          clear c14
                          have H' := Aside0.mk H
                          clear H
                          have p13 : 0 ≤ (x6_2 : Int) := of_decide_eq_true (by first | (with_reducible assumption) | assumption)
                          have q13 : x6_2 < (a0.size : Int) := of_decide_eq_true (by first | (with_reducible assumption) | assumption)
                          have hx13 := bt_at a0 x6_2
                          replace p13 := eq_true p13
                          replace q13 := eq_true q13
                          go_wp2
                          go_roundg k2
                          case measure => have := HK1.out; have := HK2.out; omega
                          case rel => exact ⟨(x5_1), (x6_2), (by first | rfl | (simp; done) | (simp [*]; done)), H', ⟨by have := HK1.out; have := HK2.out; omega⟩, ⟨by (with_reducible repeat (first | apply Kd.R_alloc | apply Kd.R_drewN | apply Kd.R_drew)); exact HO_5.out⟩, ⟨by repeat (first | (with_reducible first | exact HB.out | apply below_alloc | apply pw_below_drewN | apply below_drew1) | exact HB.out)⟩⟩
                        · rw [if_neg c14] at H
                          have c14b0 : ((bt a0 x6_2) == 10) = false := beq_eq_false_iff_ne.mpr c14
                          have c14b1 : ((bt a0 x6_2) != 10) = true := bne_iff_ne.mpr c14
                          have H' := Aside0.mk H
                          clear H
                          have p13 : 0 ≤ (x6_2 : Int) := of_decide_eq_true (by first | (with_reducible assumption) | assumption)
                          have q13 : x6_2 < (a0.size : Int) := of_decide_eq_true (by first | (with_reducible assumption) | assumption)
                          have hx13 := bt_at a0 x6_2
                          replace p13 := eq_true p13
                          replace q13 := eq_true q13
                          go_wp2
                          go_roundg k2
                          case measure => have := HK1.out; have := HK2.out; omega
                          case rel => exact ⟨(wrap64 (x6_2 + 1)), (by first | rfl | (simp; done) | (simp [*]; done)), H', ⟨by have := HK1.out; have := HK2.out; omega⟩, ⟨by (with_reducible repeat (first | apply Kd.R_alloc | apply Kd.R_drewN | apply Kd.R_drew)); exact HO_5.out⟩, ⟨by repeat (first | (with_reducible first | exact HB.out | apply below_alloc | apply pw_below_drewN | apply below_drew1) | exact HB.out)⟩⟩
                      · rw [if_neg c12] at H
                        exact absurd H (by simp)
                    · rw [if_neg c11] at H
                      have c11b0 : decide (x6_2 < (a0.size : Int)) = false := decide_eq_false c11
                      clear c11
                      have H' := Aside0.mk H
                      clear H
                      go_wp2
                      go_roundg k2
                      case measure => have := HK1.out; have := HK2.out; omega
                      case rel => exact ⟨(x5_1), (x6_2), (by first | rfl | (simp; done) | (simp [*]; done)), H', ⟨by have := HK1.out; have := HK2.out; omega⟩, ⟨by (with_reducible repeat (first | apply Kd.R_alloc | apply Kd.R_drewN | apply Kd.R_drew)); exact HO_5.out⟩, ⟨by repeat (first | (with_reducible first | exact HB.out | apply below_alloc | apply pw_below_drewN | apply below_drew1) | exact HB.out)⟩⟩
              · rw [if_neg c10] at H
                have c10b0 : ((bt a0 x6_1) == 59) = false := beq_eq_false_iff_ne.mpr c10
                have c10b1 : ((bt a0 x6_1) != 59) = true := bne_iff_ne.mpr c10
                by_cases c15 : (bt a0 x6_1) = 40
                · rw [if_pos c15] at H
                  have c15b0 : ((bt a0 x6_1) == 40) = true := beq_iff_eq.mpr c15
                  have c15b1 : ((bt a0 x6_1) != 40) = false := bne_eq_false_iff_eq.mpr c15
                  clear c15
                  by_cases c16 : x5_1.length < 4398046511104
                  · rw [if_pos c16] at H
                    have LMc16 := Aside0.mk c16
                    clear c16
                    obtain ⟨y145, hy145⟩ : ∃ y_ : List (S44), y_ = (x5_1 ++ [(⟨1, (⟨#[40]⟩ : ByteArray), x6_1⟩ : S44)]) := ⟨_, rfl⟩
                    replace H : (ashlarref15_Lex.l0 k1 a0 y145 (wrap64 (x6_1 + 1))) = some (r1, r2, r3) := by first | (rw [hy145]; with_reducible exact H) | (have H2_ := (Option.bind_some _ _).symm.trans H; rw [hy145]; with_reducible exact H2_) | (have H2_ := (Option.bind_some _ _).symm.trans H; with_reducible exact H2_) | with_reducible exact H | (rw [hy145]; exact H) | exact H
                    have Ny145 := Aside0.mk hy145
                    clear hy145
                    have H' := Aside0.mk H
                    clear H
                    have p7 : 0 ≤ (x6_1 : Int) := of_decide_eq_true (by first | (with_reducible assumption) | assumption)
                    have q7 : x6_1 < (a0.size : Int) := of_decide_eq_true (by first | (with_reducible assumption) | assumption)
                    have hx7 := bt_at a0 x6_1
                    replace p7 := eq_true p7
                    replace q7 := eq_true q7
                    go_wp2_with (first | (go_at_call 20; (with_reducible refine (ashlarref15_space.calls (bt a0 x6_1) false _ A8.out).mono ?_); rintro e w' ⟨rfl, ⟨nd, rfl⟩⟩) | ((with_reducible refine gate_builtin (b := .append) (xs := #[.tmp 75, .tmp 78]) rfl ?_); at_builtin; refine Kd.R_append k44 (w0 := w) w.heap.size rfl (.tmp 75) (.tmp 78) 28 44 (.agg #[(.int .i64 0), (.string ⟨#[]⟩), (.int .i64 0)]) 32 rfl Tryd.underlying28 info44 rfl (by decide) (by omega) u5 x5_1 (⟨1, (⟨#[40]⟩ : ByteArray), x6_1⟩ : S44) [.int .i64 1, .string (⟨#[40]⟩ : ByteArray), .int .i64 x6_1] (fun _ => True) (fun _ => False) rfl rfl ?aP (fun _ hk => hk.elim) ?aF ?aO ?aB ?aS ?aL ?_; (case aP => exact k44_mkM _ _ _ (⟨1, (⟨#[40]⟩ : ByteArray), x6_1⟩ : S44)); (case aB => exact (by repeat (first | (with_reducible first | exact HB.out | apply below_alloc | apply pw_below_drewN | apply below_drew1) | exact HB.out))); (case aF => exact (fun _ _ => trivial)); (case aO => exact (by (with_reducible repeat (first | apply Kd.R_alloc | apply Kd.R_drewN | apply Kd.R_drew)); exact HO_5.out)); (case aS => exact (below_size (by repeat (first | (with_reducible first | exact HB.out | apply below_alloc | apply pw_below_drewN | apply below_drew1) | exact HB.out)))); (case aL => have := LMc16.out; omega); intro v146 w17 ho hb hg hat; rw [← Ny145.out] at ho; have n0_ := Aside0.mk (hb); have n1_ := Aside0.mk (ho); clear HB; clear HO_5; have HB := n0_; have HO147 := n1_; clear n0_ n1_; clear ho hb hg hat))
                    go_roundg k1
                    case measure => have := HK1.out; omega
                    case rel => exact ⟨(y145), (wrap64 (x6_1 + 1)), (by first | rfl | (simp; done) | (simp [*]; done)), H', ⟨by have := HK1.out; omega⟩, ⟨by (with_reducible repeat (first | apply Kd.R_alloc | apply Kd.R_drewN | apply Kd.R_drew)); exact HO147.out⟩, ⟨by repeat (first | (with_reducible first | exact HB.out | apply below_alloc | apply pw_below_drewN | apply below_drew1) | exact HB.out)⟩⟩
                  · rw [if_neg c16] at H
                    exact absurd H (by simp)
                · rw [if_neg c15] at H
                  have c15b0 : ((bt a0 x6_1) == 40) = false := beq_eq_false_iff_ne.mpr c15
                  have c15b1 : ((bt a0 x6_1) != 40) = true := bne_iff_ne.mpr c15
                  by_cases c18 : (bt a0 x6_1) = 41
                  · rw [if_pos c18] at H
                    have c18b0 : ((bt a0 x6_1) == 41) = true := beq_iff_eq.mpr c18
                    have c18b1 : ((bt a0 x6_1) != 41) = false := bne_eq_false_iff_eq.mpr c18
                    clear c18
                    by_cases c19 : x5_1.length < 4398046511104
                    · rw [if_pos c19] at H
                      have LMc19 := Aside0.mk c19
                      clear c19
                      obtain ⟨y148, hy148⟩ : ∃ y_ : List (S44), y_ = (x5_1 ++ [(⟨2, (⟨#[41]⟩ : ByteArray), x6_1⟩ : S44)]) := ⟨_, rfl⟩
                      replace H : (ashlarref15_Lex.l0 k1 a0 y148 (wrap64 (x6_1 + 1))) = some (r1, r2, r3) := by first | (rw [hy148]; with_reducible exact H) | (have H2_ := (Option.bind_some _ _).symm.trans H; rw [hy148]; with_reducible exact H2_) | (have H2_ := (Option.bind_some _ _).symm.trans H; with_reducible exact H2_) | with_reducible exact H | (rw [hy148]; exact H) | exact H
                      have Ny148 := Aside0.mk hy148
                      clear hy148
                      have H' := Aside0.mk H
                      clear H
                      have p7 : 0 ≤ (x6_1 : Int) := of_decide_eq_true (by first | (with_reducible assumption) | assumption)
                      have q7 : x6_1 < (a0.size : Int) := of_decide_eq_true (by first | (with_reducible assumption) | assumption)
                      have hx7 := bt_at a0 x6_1
                      replace p7 := eq_true p7
                      replace q7 := eq_true q7
                      go_wp2_with (first | (go_at_call 20; (with_reducible refine (ashlarref15_space.calls (bt a0 x6_1) false _ A8.out).mono ?_); rintro e w' ⟨rfl, ⟨nd, rfl⟩⟩) | ((with_reducible refine gate_builtin (b := .append) (xs := #[.tmp 85, .tmp 88]) rfl ?_); at_builtin; refine Kd.R_append k44 (w0 := w) w.heap.size rfl (.tmp 85) (.tmp 88) 28 44 (.agg #[(.int .i64 0), (.string ⟨#[]⟩), (.int .i64 0)]) 32 rfl Tryd.underlying28 info44 rfl (by decide) (by omega) u5 x5_1 (⟨2, (⟨#[41]⟩ : ByteArray), x6_1⟩ : S44) [.int .i64 2, .string (⟨#[41]⟩ : ByteArray), .int .i64 x6_1] (fun _ => True) (fun _ => False) rfl rfl ?aP (fun _ hk => hk.elim) ?aF ?aO ?aB ?aS ?aL ?_; (case aP => exact k44_mkM _ _ _ (⟨2, (⟨#[41]⟩ : ByteArray), x6_1⟩ : S44)); (case aB => exact (by repeat (first | (with_reducible first | exact HB.out | apply below_alloc | apply pw_below_drewN | apply below_drew1) | exact HB.out))); (case aF => exact (fun _ _ => trivial)); (case aO => exact (by (with_reducible repeat (first | apply Kd.R_alloc | apply Kd.R_drewN | apply Kd.R_drew)); exact HO_5.out)); (case aS => exact (below_size (by repeat (first | (with_reducible first | exact HB.out | apply below_alloc | apply pw_below_drewN | apply below_drew1) | exact HB.out)))); (case aL => have := LMc19.out; omega); intro v149 w20 ho hb hg hat; rw [← Ny148.out] at ho; have n0_ := Aside0.mk (hb); have n1_ := Aside0.mk (ho); clear HB; clear HO_5; have HB := n0_; have HO150 := n1_; clear n0_ n1_; clear ho hb hg hat))
                      go_roundg k1
                      case measure => have := HK1.out; omega
                      case rel => exact ⟨(y148), (wrap64 (x6_1 + 1)), (by first | rfl | (simp; done) | (simp [*]; done)), H', ⟨by have := HK1.out; omega⟩, ⟨by (with_reducible repeat (first | apply Kd.R_alloc | apply Kd.R_drewN | apply Kd.R_drew)); exact HO150.out⟩, ⟨by repeat (first | (with_reducible first | exact HB.out | apply below_alloc | apply pw_below_drewN | apply below_drew1) | exact HB.out)⟩⟩
                    · rw [if_neg c19] at H
                      exact absurd H (by simp)
                  · rw [if_neg c18] at H
                    have c18b0 : ((bt a0 x6_1) == 41) = false := beq_eq_false_iff_ne.mpr c18
                    have c18b1 : ((bt a0 x6_1) != 41) = true := bne_iff_ne.mpr c18
                    have HC21 := Aside0.mk H
                    clear H
                    have p7 : 0 ≤ (x6_1 : Int) := of_decide_eq_true (by first | (with_reducible assumption) | assumption)
                    have q7 : x6_1 < (a0.size : Int) := of_decide_eq_true (by first | (with_reducible assumption) | assumption)
                    have hx7 := bt_at a0 x6_1
                    replace p7 := eq_true p7
                    replace q7 := eq_true q7
                    go_upto_region 8 with (first | (go_at_call 20; (with_reducible refine (ashlarref15_space.calls (bt a0 x6_1) false _ A8.out).mono ?_); rintro e w' ⟨rfl, ⟨nd, rfl⟩⟩))
                    (try simp only [Act.put, List.setIfInBounds_toArray, List.set_cons_zero, List.set_cons_succ])
                    go_cut [31] (fun v31 wc => ∃ (kq : Nat) (x31_20 : Bool), v31 = .bool x31_20 ∧ Aside0 (ashlarref15_Lex.j2 kq a0 x5_1 x6_1 (bt a0 x6_1) x6_1 x31_20 = some (r1, r2, r3)) ∧ Aside0 (kq ≤ k1) ∧ Aside0 (Kd.R k44 44 wc w.heap.size (fun _ => True) u5 x5_1) ∧ Aside0 (Below w.heap.size w wc))
                    case first =>
                      have H := HC21.out
                      clear HC21
                      replace H := Option.bind_eq_some_iff.mp H
                      obtain ⟨t151, A220, H⟩ := H
                      replace H : (if t151 = true then (ashlarref15_Lex.j2 k1 a0 x5_1 x6_1 (bt a0 x6_1) x6_1 true) else ((ashlarref15_digit.f (bt a0 x6_1)).bind fun t152 => (if t152 = true then (ashlarref15_Lex.j2 k1 a0 x5_1 x6_1 (bt a0 x6_1) x6_1 true) else (ashlarref15_Lex.j2 k1 a0 x5_1 x6_1 (bt a0 x6_1) x6_1 ((bt a0 x6_1) == 45))))) = some (r1, r2, r3) := H
                      have A22 := Aside0.mk A220
                      clear A220
                      by_cases c23 : t151 = true
                      · subst c23
                        have H1 : (ashlarref15_Lex.j2 k1 a0 x5_1 x6_1 (bt a0 x6_1) x6_1 true) = some (r1, r2, r3) := by rw [if_pos rfl] at H; exact H
                        clear H
                        have H := H1
                        clear H1
                        have H' := Aside0.mk H
                        clear H
                        go_wp2_with (first | (go_at_call 21; (with_reducible refine (ashlarref15_letter.calls (bt a0 x6_1) true _ A22.out).mono ?_); rintro e w' ⟨rfl, ⟨nd, rfl⟩⟩))
                        go_meet
                        case rel => exact ⟨_, (true), (by first | rfl | (simp; done) | (simp [*]; done)), H', ⟨by have := HK1.out; first | omega | exact Nat.le_refl _⟩, ⟨by (with_reducible repeat (first | apply Kd.R_alloc | apply Kd.R_drewN | apply Kd.R_drew)); exact HO_5.out⟩, ⟨by repeat (first | (with_reducible first | exact HB.out | apply below_alloc | apply pw_below_drewN | apply below_drew1) | exact HB.out)⟩⟩
                      · replace c23 := Bool.eq_false_iff.mpr c23
                        subst c23
                        have H1 : ((ashlarref15_digit.f (bt a0 x6_1)).bind fun t152 => (if t152 = true then (ashlarref15_Lex.j2 k1 a0 x5_1 x6_1 (bt a0 x6_1) x6_1 true) else (ashlarref15_Lex.j2 k1 a0 x5_1 x6_1 (bt a0 x6_1) x6_1 ((bt a0 x6_1) == 45)))) = some (r1, r2, r3) := by rw [if_neg (show ¬ (false = true) by decide)] at H; exact H
                        clear H
                        have H := H1
                        clear H1
                        replace H := Option.bind_eq_some_iff.mp H
                        obtain ⟨t152, A240, H⟩ := H
                        replace H : (if t152 = true then (ashlarref15_Lex.j2 k1 a0 x5_1 x6_1 (bt a0 x6_1) x6_1 true) else (ashlarref15_Lex.j2 k1 a0 x5_1 x6_1 (bt a0 x6_1) x6_1 ((bt a0 x6_1) == 45))) = some (r1, r2, r3) := H
                        have A24 := Aside0.mk A240
                        clear A240
                        by_cases c25 : t152 = true
                        · subst c25
                          have H1 : (ashlarref15_Lex.j2 k1 a0 x5_1 x6_1 (bt a0 x6_1) x6_1 true) = some (r1, r2, r3) := by rw [if_pos rfl] at H; exact H
                          clear H
                          have H := H1
                          clear H1
                          have H' := Aside0.mk H
                          clear H
                          go_wp2_with (first | (go_at_call 21; (with_reducible refine (ashlarref15_letter.calls (bt a0 x6_1) false _ A22.out).mono ?_); rintro e w' ⟨rfl, ⟨nd, rfl⟩⟩) | (go_at_call 22; (with_reducible refine (ashlarref15_digit.calls (bt a0 x6_1) true _ A24.out).mono ?_); rintro e w' ⟨rfl, ⟨nd, rfl⟩⟩))
                          go_meet
                          case rel => exact ⟨_, (true), (by first | rfl | (simp; done) | (simp [*]; done)), H', ⟨by have := HK1.out; first | omega | exact Nat.le_refl _⟩, ⟨by (with_reducible repeat (first | apply Kd.R_alloc | apply Kd.R_drewN | apply Kd.R_drew)); exact HO_5.out⟩, ⟨by repeat (first | (with_reducible first | exact HB.out | apply below_alloc | apply pw_below_drewN | apply below_drew1) | exact HB.out)⟩⟩
                        · replace c25 := Bool.eq_false_iff.mpr c25
                          subst c25
                          have H1 : (ashlarref15_Lex.j2 k1 a0 x5_1 x6_1 (bt a0 x6_1) x6_1 ((bt a0 x6_1) == 45)) = some (r1, r2, r3) := by rw [if_neg (show ¬ (false = true) by decide)] at H; exact H
                          clear H
                          have H := H1
                          clear H1
                          have H' := Aside0.mk H
                          clear H
                          go_wp2_with (first | (go_at_call 21; (with_reducible refine (ashlarref15_letter.calls (bt a0 x6_1) false _ A22.out).mono ?_); rintro e w' ⟨rfl, ⟨nd, rfl⟩⟩) | (go_at_call 22; (with_reducible refine (ashlarref15_digit.calls (bt a0 x6_1) false _ A24.out).mono ?_); rintro e w' ⟨rfl, ⟨nd, rfl⟩⟩))
                          go_meet
                          case rel => exact ⟨_, (((bt a0 x6_1) == 45)), (by first | rfl | (simp; done) | (simp [*]; done)), H', ⟨by have := HK1.out; first | omega | exact Nat.le_refl _⟩, ⟨by (with_reducible repeat (first | apply Kd.R_alloc | apply Kd.R_drewN | apply Kd.R_drew)); exact HO_5.out⟩, ⟨by repeat (first | (with_reducible first | exact HB.out | apply below_alloc | apply pw_below_drewN | apply below_drew1) | exact HB.out)⟩⟩
                    case rest =>
                      clear HC21
                      try clear c1
                      try clear p1
                      try clear q1
                      try clear hx1
                      try clear c2
                      try clear c2b0
                      try clear c2b1
                      try clear p2
                      try clear c5
                      try clear c5b0
                      try clear c6
                      try clear c6b0
                      try clear p6
                      try clear p7
                      try clear q7
                      try clear hx7
                      try clear c9
                      try clear c10
                      try clear c10b0
                      try clear c10b1
                      try clear c11
                      try clear c11b0
                      try clear c12
                      try clear c12b0
                      try clear p13
                      try clear q13
                      try clear hx13
                      try clear c14
                      try clear c14b0
                      try clear c14b1
                      try clear c15
                      try clear c15b0
                      try clear c15b1
                      try clear c16
                      try clear c18
                      try clear c18b0
                      try clear c18b1
                      try clear c19
                      try clear c20
                      try clear c21
                      try clear c23
                      try clear c25
                      try clear p13
                      try clear p2
                      try clear p6
                      try clear p7
                      try clear q13
                      try clear q7
                      obtain ⟨kq, x31_20, rfl, HA, HJ20, HO_5, HB⟩ := hcut
                      cases kq with
                      | zero => exact absurd HA.out (by simp [ashlarref15_Lex.j2])
                      | succ kj20 =>
                        have H := HA.out
                        clear HA
                        simp only [ashlarref15_Lex.j2] at H
                        have HC26 := Aside0.mk H
                        clear H
                        go_upto_if 31 with (fail)
                        go_cut [8] (fun v8 wc => ∃ (kq : Nat) (x8_25 : Int), v8 = .int .i64 x8_25 ∧ Aside0 (ashlarref15_Lex.j3 kq a0 x5_1 x6_1 (bt a0 x6_1) x8_25 = some (r1, r2, r3)) ∧ Aside0 (kq ≤ kj20) ∧ Aside0 (Kd.R k44 44 wc w.heap.size (fun _ => True) u5 x5_1) ∧ Aside0 (Below w.heap.size w wc))
                        case first =>
                          have H := HC26.out
                          clear HC26
                          by_cases c27 : x31_20 = true
                          · subst c27
                            have H1 : ((ashlarref15_word.f kj20 a0 x6_1).bind fun t153 => (ashlarref15_Lex.j3 kj20 a0 x5_1 x6_1 (bt a0 x6_1) t153)) = some (r1, r2, r3) := by rw [if_pos rfl] at H; exact H
                            clear H
                            have H := H1
                            clear H1
                            replace H := Option.bind_eq_some_iff.mp H
                            obtain ⟨t153, A280, H⟩ := H
                            replace H : (ashlarref15_Lex.j3 kj20 a0 x5_1 x6_1 (bt a0 x6_1) t153) = some (r1, r2, r3) := H
                            have A28 := Aside0.mk A280
                            clear A280
                            have H' := Aside0.mk H
                            clear H
                            go_wp2_with (first | (go_at_call 23; (with_reducible refine (ashlarref15_word.calls kj20 a0 x6_1 t153 _ A28.out).mono ?_); rintro e w' ⟨rfl, ⟨nd, rfl⟩⟩))
                            go_meet
                            case rel => exact ⟨_, (t153), (by first | rfl | (simp; done) | (simp [*]; done)), H', ⟨by have := HK1.out; have := HJ20.out; first | omega | exact Nat.le_refl _⟩, ⟨by (with_reducible repeat (first | apply Kd.R_alloc | apply Kd.R_drewN | apply Kd.R_drew)); exact HO_5.out⟩, ⟨by repeat (first | (with_reducible first | exact HB.out | apply below_alloc | apply pw_below_drewN | apply below_drew1) | exact HB.out)⟩⟩
                          · replace c27 := Bool.eq_false_iff.mpr c27
                            subst c27
                            have H1 : (ashlarref15_Lex.j3 kj20 a0 x5_1 x6_1 (bt a0 x6_1) x6_1) = some (r1, r2, r3) := by rw [if_neg (show ¬ (false = true) by decide)] at H; exact H
                            clear H
                            have H := H1
                            clear H1
                            have H' := Aside0.mk H
                            clear H
                            go_wp2
                            go_meet
                            case rel => exact ⟨_, (x6_1), (by first | rfl | (simp; done) | (simp [*]; done)), H', ⟨by have := HK1.out; have := HJ20.out; first | omega | exact Nat.le_refl _⟩, ⟨by (with_reducible repeat (first | apply Kd.R_alloc | apply Kd.R_drewN | apply Kd.R_drew)); exact HO_5.out⟩, ⟨by repeat (first | (with_reducible first | exact HB.out | apply below_alloc | apply pw_below_drewN | apply below_drew1) | exact HB.out)⟩⟩
                        case rest =>
                          clear HC26
                          try clear c1
                          try clear p1
                          try clear q1
                          try clear hx1
                          try clear c2
                          try clear c2b0
                          try clear c2b1
                          try clear p2
                          try clear c5
                          try clear c5b0
                          try clear c6
                          try clear c6b0
                          try clear p6
                          try clear p7
                          try clear q7
                          try clear hx7
                          try clear c9
                          try clear c10
                          try clear c10b0
                          try clear c10b1
                          try clear c11
                          try clear c11b0
                          try clear c12
                          try clear c12b0
                          try clear p13
                          try clear q13
                          try clear hx13
                          try clear c14
                          try clear c14b0
                          try clear c14b1
                          try clear c15
                          try clear c15b0
                          try clear c15b1
                          try clear c16
                          try clear c18
                          try clear c18b0
                          try clear c18b1
                          try clear c19
                          try clear c20
                          try clear c21
                          try clear c23
                          try clear c25
                          try clear c27
                          try clear p1
                          try clear p13
                          try clear p2
                          try clear p6
                          try clear p7
                          try clear q1
                          try clear q13
                          try clear q7
                          obtain ⟨kq, x8_25, rfl, HA, HJ25, HO_5, HB⟩ := hcut
                          cases kq with
                          | zero => exact absurd HA.out (by simp [ashlarref15_Lex.j3])
                          | succ kj25 =>
                            have H := HA.out
                            clear HA
                            simp only [ashlarref15_Lex.j3] at H
                            by_cases c29 : x8_25 = x6_1
                            · rw [if_pos c29] at H
                              have c29b0 : (x8_25 == x6_1) = true := beq_iff_eq.mpr c29
                              have c29b1 : (x8_25 != x6_1) = false := bne_eq_false_iff_eq.mpr c29
                              clear c29
                              simp only [Option.some.injEq, Prod.mk.injEq] at H
                              obtain ⟨rfl, rfl, rfl⟩ := H
                              go_wp2
                              go_ret3
                              exact ⟨_, by first | rfl | (simp [errW_none, errW_some] <;> rfl) | (simp [*, errW_none, errW_some] <;> rfl), by first | exact Kd.R_nil _ _ _ _ _ | exact Kd.N_nil _ _ _ _ _ | exact Kd.V_nil _ _ _ _ _ | exact Kd.Q_nil _ _ _ _ _ | exact Kd.S_nil _ _ _ _ _, by repeat (first | (with_reducible first | exact HB.out | apply below_alloc | apply pw_below_drewN | apply below_drew1) | exact HB.out)⟩
                            · rw [if_neg c29] at H
                              have c29b0 : (x8_25 == x6_1) = false := beq_eq_false_iff_ne.mpr c29
                              have c29b1 : (x8_25 != x6_1) = true := bne_iff_ne.mpr c29
                              replace H := Option.bind_eq_some_iff.mp H
                              obtain ⟨t154, A300, H⟩ := H
                              replace H : (if t154 = true then (if 0 ≤ x6_1 then (if x6_1 ≤ x8_25 then (if x8_25 ≤ (a0.size : Int) then (if x5_1.length < 4398046511104 then (ashlarref15_Lex.l0 kj25 a0 (x5_1 ++ [(⟨3, a0.extract (x6_1 : Int).toNat (x8_25 : Int).toNat, x6_1⟩ : S44)]) x8_25) else (none)) else (none)) else (none)) else (none)) else (if 0 ≤ x6_1 then (if x6_1 ≤ x8_25 then (if x8_25 ≤ (a0.size : Int) then (if x5_1.length < 4398046511104 then (ashlarref15_Lex.l0 kj25 a0 (x5_1 ++ [(⟨4, a0.extract (x6_1 : Int).toNat (x8_25 : Int).toNat, x6_1⟩ : S44)]) x8_25) else (none)) else (none)) else (none)) else (none))) = some (r1, r2, r3) := H
                              have A30 := Aside0.mk A300
                              clear A300
                              by_cases c31 : t154 = true
                              · subst c31
                                have H1 : (if 0 ≤ x6_1 then (if x6_1 ≤ x8_25 then (if x8_25 ≤ (a0.size : Int) then (if x5_1.length < 4398046511104 then (ashlarref15_Lex.l0 kj25 a0 (x5_1 ++ [(⟨3, a0.extract (x6_1 : Int).toNat (x8_25 : Int).toNat, x6_1⟩ : S44)]) x8_25) else (none)) else (none)) else (none)) else (none)) = some (r1, r2, r3) := by rw [if_pos rfl] at H; exact H
                                clear H
                                have H := H1
                                clear H1
                                by_cases c32 : 0 ≤ x6_1
                                · rw [if_pos c32] at H
                                  have c32b0 := eq_true c32
                                  have c32b1 : decide (0 ≤ x6_1) = true := decide_eq_true c32
                                  clear c32
                                  by_cases c33 : x6_1 ≤ x8_25
                                  · rw [if_pos c33] at H
                                    have c33b0 := eq_true c33
                                    have c33b1 : decide (x6_1 ≤ x8_25) = true := decide_eq_true c33
                                    clear c33
                                    by_cases c34 : x8_25 ≤ (a0.size : Int)
                                    · rw [if_pos c34] at H
                                      have c34b0 := eq_true c34
                                      have c34b1 : decide (x8_25 ≤ (a0.size : Int)) = true := decide_eq_true c34
                                      clear c34
                                      by_cases c35 : x5_1.length < 4398046511104
                                      · rw [if_pos c35] at H
                                        have LMc35 := Aside0.mk c35
                                        clear c35
                                        obtain ⟨y155, hy155⟩ : ∃ y_ : List (S44), y_ = (x5_1 ++ [(⟨3, a0.extract (x6_1 : Int).toNat (x8_25 : Int).toNat, x6_1⟩ : S44)]) := ⟨_, rfl⟩
                                        replace H : (ashlarref15_Lex.l0 kj25 a0 y155 x8_25) = some (r1, r2, r3) := by first | (rw [hy155]; with_reducible exact H) | (have H2_ := (Option.bind_some _ _).symm.trans H; rw [hy155]; with_reducible exact H2_) | (have H2_ := (Option.bind_some _ _).symm.trans H; with_reducible exact H2_) | with_reducible exact H | (rw [hy155]; exact H) | exact H
                                        have Ny155 := Aside0.mk hy155
                                        clear hy155
                                        have H' := Aside0.mk H
                                        clear H
                                        go_wp2_with (first | (go_at_call 21; (with_reducible refine (ashlarref15_letter.calls (bt a0 x6_1) true _ A30.out).mono ?_); rintro e w' ⟨rfl, ⟨nd, rfl⟩⟩) | ((with_reducible refine gate_builtin (b := .append) (xs := #[.tmp 41, .tmp 49]) rfl ?_); at_builtin; refine Kd.R_append k44 (w0 := w) w.heap.size rfl (.tmp 41) (.tmp 49) 28 44 (.agg #[(.int .i64 0), (.string ⟨#[]⟩), (.int .i64 0)]) 32 rfl Tryd.underlying28 info44 rfl (by decide) (by omega) u5 x5_1 (⟨3, a0.extract (x6_1 : Int).toNat (x8_25 : Int).toNat, x6_1⟩ : S44) [.int .i64 3, .string (a0.extract (x6_1 : Int).toNat (x8_25 : Int).toNat), .int .i64 x6_1] (fun _ => True) (fun _ => False) rfl rfl ?aP (fun _ hk => hk.elim) ?aF ?aO ?aB ?aS ?aL ?_; (case aP => exact k44_mkM _ _ _ (⟨3, a0.extract (x6_1 : Int).toNat (x8_25 : Int).toNat, x6_1⟩ : S44)); (case aB => exact (by repeat (first | (with_reducible first | exact HB.out | apply below_alloc | apply pw_below_drewN | apply below_drew1) | exact HB.out))); (case aF => exact (fun _ _ => trivial)); (case aO => exact (by (with_reducible repeat (first | apply Kd.R_alloc | apply Kd.R_drewN | apply Kd.R_drew)); exact HO_5.out)); (case aS => exact (below_size (by repeat (first | (with_reducible first | exact HB.out | apply below_alloc | apply pw_below_drewN | apply below_drew1) | exact HB.out)))); (case aL => have := LMc35.out; omega); intro v156 w36 ho hb hg hat; rw [← Ny155.out] at ho; have n0_ := Aside0.mk (hb); have n1_ := Aside0.mk (ho); clear HB; clear HO_5; have HB := n0_; have HO157 := n1_; clear n0_ n1_; clear ho hb hg hat))
                                        go_roundg kj25
                                        case measure => have := HK1.out; have := HJ20.out; have := HJ25.out; omega
                                        case rel => exact ⟨(y155), (x8_25), (by first | rfl | (simp; done) | (simp [*]; done)), H', ⟨by have := HK1.out; have := HJ20.out; have := HJ25.out; omega⟩, ⟨by (with_reducible repeat (first | apply Kd.R_alloc | apply Kd.R_drewN | apply Kd.R_drew)); exact HO157.out⟩, ⟨by repeat (first | (with_reducible first | exact HB.out | apply below_alloc | apply pw_below_drewN | apply below_drew1) | exact HB.out)⟩⟩
                                      · rw [if_neg c35] at H
                                        exact absurd H (by simp)
                                    · rw [if_neg c34] at H
                                      exact absurd H (by simp)
                                  · rw [if_neg c33] at H
                                    exact absurd H (by simp)
                                · rw [if_neg c32] at H
                                  exact absurd H (by simp)
                              · replace c31 := Bool.eq_false_iff.mpr c31
                                subst c31
                                have H1 : (if 0 ≤ x6_1 then (if x6_1 ≤ x8_25 then (if x8_25 ≤ (a0.size : Int) then (if x5_1.length < 4398046511104 then (ashlarref15_Lex.l0 kj25 a0 (x5_1 ++ [(⟨4, a0.extract (x6_1 : Int).toNat (x8_25 : Int).toNat, x6_1⟩ : S44)]) x8_25) else (none)) else (none)) else (none)) else (none)) = some (r1, r2, r3) := by rw [if_neg (show ¬ (false = true) by decide)] at H; exact H
                                clear H
                                have H := H1
                                clear H1
                                by_cases c37 : 0 ≤ x6_1
                                · rw [if_pos c37] at H
                                  have c37b0 := eq_true c37
                                  have c37b1 : decide (0 ≤ x6_1) = true := decide_eq_true c37
                                  clear c37
                                  by_cases c38 : x6_1 ≤ x8_25
                                  · rw [if_pos c38] at H
                                    have c38b0 := eq_true c38
                                    have c38b1 : decide (x6_1 ≤ x8_25) = true := decide_eq_true c38
                                    clear c38
                                    by_cases c39 : x8_25 ≤ (a0.size : Int)
                                    · rw [if_pos c39] at H
                                      have c39b0 := eq_true c39
                                      have c39b1 : decide (x8_25 ≤ (a0.size : Int)) = true := decide_eq_true c39
                                      clear c39
                                      by_cases c40 : x5_1.length < 4398046511104
                                      · rw [if_pos c40] at H
                                        have LMc40 := Aside0.mk c40
                                        clear c40
                                        obtain ⟨y158, hy158⟩ : ∃ y_ : List (S44), y_ = (x5_1 ++ [(⟨4, a0.extract (x6_1 : Int).toNat (x8_25 : Int).toNat, x6_1⟩ : S44)]) := ⟨_, rfl⟩
                                        replace H : (ashlarref15_Lex.l0 kj25 a0 y158 x8_25) = some (r1, r2, r3) := by first | (rw [hy158]; with_reducible exact H) | (have H2_ := (Option.bind_some _ _).symm.trans H; rw [hy158]; with_reducible exact H2_) | (have H2_ := (Option.bind_some _ _).symm.trans H; with_reducible exact H2_) | with_reducible exact H | (rw [hy158]; exact H) | exact H
                                        have Ny158 := Aside0.mk hy158
                                        clear hy158
                                        have H' := Aside0.mk H
                                        clear H
                                        go_wp2_with (first | (go_at_call 21; (with_reducible refine (ashlarref15_letter.calls (bt a0 x6_1) false _ A30.out).mono ?_); rintro e w' ⟨rfl, ⟨nd, rfl⟩⟩) | ((with_reducible refine gate_builtin (b := .append) (xs := #[.tmp 41, .tmp 49]) rfl ?_); at_builtin; refine Kd.R_append k44 (w0 := w) w.heap.size rfl (.tmp 41) (.tmp 49) 28 44 (.agg #[(.int .i64 0), (.string ⟨#[]⟩), (.int .i64 0)]) 32 rfl Tryd.underlying28 info44 rfl (by decide) (by omega) u5 x5_1 (⟨4, a0.extract (x6_1 : Int).toNat (x8_25 : Int).toNat, x6_1⟩ : S44) [.int .i64 4, .string (a0.extract (x6_1 : Int).toNat (x8_25 : Int).toNat), .int .i64 x6_1] (fun _ => True) (fun _ => False) rfl rfl ?aP (fun _ hk => hk.elim) ?aF ?aO ?aB ?aS ?aL ?_; (case aP => exact k44_mkM _ _ _ (⟨4, a0.extract (x6_1 : Int).toNat (x8_25 : Int).toNat, x6_1⟩ : S44)); (case aB => exact (by repeat (first | (with_reducible first | exact HB.out | apply below_alloc | apply pw_below_drewN | apply below_drew1) | exact HB.out))); (case aF => exact (fun _ _ => trivial)); (case aO => exact (by (with_reducible repeat (first | apply Kd.R_alloc | apply Kd.R_drewN | apply Kd.R_drew)); exact HO_5.out)); (case aS => exact (below_size (by repeat (first | (with_reducible first | exact HB.out | apply below_alloc | apply pw_below_drewN | apply below_drew1) | exact HB.out)))); (case aL => have := LMc40.out; omega); intro v159 w41 ho hb hg hat; rw [← Ny158.out] at ho; have n0_ := Aside0.mk (hb); have n1_ := Aside0.mk (ho); clear HB; clear HO_5; have HB := n0_; have HO160 := n1_; clear n0_ n1_; clear ho hb hg hat))
                                        go_roundg kj25
                                        case measure => have := HK1.out; have := HJ20.out; have := HJ25.out; omega
                                        case rel => exact ⟨(y158), (x8_25), (by first | rfl | (simp; done) | (simp [*]; done)), H', ⟨by have := HK1.out; have := HJ20.out; have := HJ25.out; omega⟩, ⟨by (with_reducible repeat (first | apply Kd.R_alloc | apply Kd.R_drewN | apply Kd.R_drew)); exact HO160.out⟩, ⟨by repeat (first | (with_reducible first | exact HB.out | apply below_alloc | apply pw_below_drewN | apply below_drew1) | exact HB.out)⟩⟩
                                      · rw [if_neg c40] at H
                                        exact absurd H (by simp)
                                    · rw [if_neg c39] at H
                                      exact absurd H (by simp)
                                  · rw [if_neg c38] at H
                                    exact absurd H (by simp)
                                · rw [if_neg c37] at H
                                  exact absurd H (by simp)
          · rw [if_neg c6] at H
            exact absurd H (by simp)
        · rw [if_neg c5] at H
          have c5b0 : decide (x6_1 < (a0.size : Int)) = false := decide_eq_false c5
          clear c5
          simp only [Option.some.injEq, Prod.mk.injEq] at H
          obtain ⟨rfl, rfl, rfl⟩ := H
          go_wp2
          go_ret3
          exact ⟨_, by first | rfl | (simp [errW_none, errW_some] <;> rfl) | (simp [*, errW_none, errW_some] <;> rfl), by (with_reducible repeat (first | apply Kd.R_alloc | apply Kd.R_drewN | apply Kd.R_drew)); exact HO_5.out, by repeat (first | (with_reducible first | exact HB.out | apply below_alloc | apply pw_below_drewN | apply below_drew1) | exact HB.out)⟩

end Go.Proofs.YtnegkabafigfnaaDoor.PLexTells
