-- Written by a program of this session (myprint.py) out of the translation, with contracts of this session given.
import Derived.Test.YtnegkabafigfnaaDoorPLexTellsx0
import Derived.Test.YtnegkabafigfnaaDoorPLexTellsx1
import Derived.Test.YtnegkabafigfnaaDoorLexStr
namespace Go.Proofs.YtnegkabafigfnaaDoor.PLexTells
open Go.RowKit Go.Proofs.YtnegkabafigfnaaDoor.Given Go.Proofs.YtnegkabafigfnaaDoorW.PrintWords Go.Proofs.YtnegkabafigfnaaDoorW.PrintLast Go.Proofs.YtnegkabafigfnaaDoorW.PrintMore
attribute [local go_sem] max2_int min2_int max_two min_two max_three min_three max_four min_four   -- for this text's walks alone
attribute [local go_sem] Lex.gtr_str
set_option linter.unusedVariables false
set_option linter.unusedSimpArgs false

/-! ### ashlarref15_word: function 23 -/
mutual
def ashlarref15_word.l0 : Nat → ByteArray → Int → Int → Option (Int)
  | 0, _, _, _ => none
  | k + 1, x0, x1, x5 => if x5 < (x0.size : Int) then (if 0 ≤ x5 then ((ashlarref15_letter.f (bt x0 x5)).bind fun t134 => (if t134 = true then (ashlarref15_word.l0 k x0 x1 (wrap64 (x5 + 1))) else ((ashlarref15_digit.f (bt x0 x5)).bind fun t135 => (if t135 = true then (ashlarref15_word.l0 k x0 x1 (wrap64 (x5 + 1))) else (if (bt x0 x5) = 95 then (ashlarref15_word.l0 k x0 x1 (wrap64 (x5 + 1))) else (if (bt x0 x5) = 45 then (ashlarref15_word.l0 k x0 x1 (wrap64 (x5 + 1))) else ((ashlarref15_ends.f x0 x5).bind fun t136 => (if t136 = true then (some x5) else (some x1))))))))) else (none)) else ((ashlarref15_ends.f x0 x5).bind fun t137 => (if t137 = true then (some x5) else (some x1)))
def ashlarref15_word.j1 : Nat → ByteArray → Int → Int → Option (Int)
  | 0, _, _, _ => none
  | k + 1, x0, x1, x5 => ashlarref15_word.l1 k x0 x1 x5 x5
def ashlarref15_word.j3 : Nat → ByteArray → Int → Int → Int → Option (Int)
  | 0, _, _, _, _ => none
  | k + 1, x0, x1, x5, x6 => if x5 = x6 then (ashlarref15_word.j4 k x0 x1 x5 x6 true) else (if (wrap64 (x5 - x6)) > 19 then (ashlarref15_word.j4 k x0 x1 x5 x6 true) else (if 0 ≤ x6 then (if x6 < (x0.size : Int) then (if (bt x0 x6) = 48 then (if (wrap64 (x5 - x6)) > 1 then (ashlarref15_word.j4 k x0 x1 x5 x6 true) else (if x6 > x1 then (ashlarref15_word.j4 k x0 x1 x5 x6 true) else ((ashlarref15_ends.f x0 x5).bind fun t139 => (ashlarref15_word.j4 k x0 x1 x5 x6 (!t139))))) else ((ashlarref15_ends.f x0 x5).bind fun t140 => (ashlarref15_word.j4 k x0 x1 x5 x6 (!t140)))) else (none)) else (none)))
def ashlarref15_word.j4 : Nat → ByteArray → Int → Int → Int → Bool → Option (Int)
  | 0, _, _, _, _, _ => none
  | k + 1, x0, x1, x5, x6, x98 => if x98 = true then (some x1) else (if x6 > x1 then (if (wrap64 (x5 - x6)) = 19 then (if 0 ≤ x6 then (if x6 ≤ x5 then (if x5 ≤ (x0.size : Int) then (if (Op.bytesLess ([57, 50, 50, 51, 51, 55, 50, 48, 51, 54, 56, 53, 52, 55, 55, 53, 56, 48, 56] : List UInt8) ((x0.extract (x6 : Int).toNat (x5 : Int).toNat).toList)) = true then (some x1) else (some x5)) else (none)) else (none)) else (none)) else (some x5)) else (if (wrap64 (x5 - x6)) = 19 then (if 0 ≤ x6 then (if x6 ≤ x5 then (if x5 ≤ (x0.size : Int) then (if (Op.bytesLess ([57, 50, 50, 51, 51, 55, 50, 48, 51, 54, 56, 53, 52, 55, 55, 53, 56, 48, 55] : List UInt8) ((x0.extract (x6 : Int).toNat (x5 : Int).toNat).toList)) = true then (some x1) else (some x5)) else (none)) else (none)) else (none)) else (some x5)))
def ashlarref15_word.l1 : Nat → ByteArray → Int → Int → Int → Option (Int)
  | 0, _, _, _, _ => none
  | k + 1, x0, x1, x5, x6 => if x5 < (x0.size : Int) then (if 0 ≤ x5 then ((ashlarref15_digit.f (bt x0 x5)).bind fun t138 => (if t138 = true then (ashlarref15_word.l1 k x0 x1 (wrap64 (x5 + 1)) x6) else (ashlarref15_word.j3 k x0 x1 x5 x6))) else (none)) else (ashlarref15_word.j3 k x0 x1 x5 x6)
end
def ashlarref15_word.f (k : Nat) (a0 : ByteArray) (a1 : Int) : Option (Int) := if 0 ≤ a1 then (if a1 < (a0.size : Int) then ((ashlarref15_letter.f (bt a0 a1)).bind fun t133 => (if t133 = true then (ashlarref15_word.l0 k a0 a1 a1) else (if (bt a0 a1) = 45 then (ashlarref15_word.j1 k a0 a1 (wrap64 (a1 + 1))) else (ashlarref15_word.j1 k a0 a1 a1)))) else (none)) else (none)
theorem ashlarref15_word.mono_l : ∀ k, (∀ y0 y1 y2, LeO (ashlarref15_word.l0 k y0 y1 y2) (ashlarref15_word.l0 (k + 1) y0 y1 y2)) ∧ (∀ y0 y1 y2, LeO (ashlarref15_word.j1 k y0 y1 y2) (ashlarref15_word.j1 (k + 1) y0 y1 y2)) ∧ (∀ y0 y1 y2 y3, LeO (ashlarref15_word.j3 k y0 y1 y2 y3) (ashlarref15_word.j3 (k + 1) y0 y1 y2 y3)) ∧ (∀ y0 y1 y2 y3 y4, LeO (ashlarref15_word.j4 k y0 y1 y2 y3 y4) (ashlarref15_word.j4 (k + 1) y0 y1 y2 y3 y4)) ∧ (∀ y0 y1 y2 y3, LeO (ashlarref15_word.l1 k y0 y1 y2 y3) (ashlarref15_word.l1 (k + 1) y0 y1 y2 y3))
  | 0 => ⟨fun _ _ _ r h => by simp [ashlarref15_word.l0] at h, fun _ _ _ r h => by simp [ashlarref15_word.j1] at h, fun _ _ _ _ r h => by simp [ashlarref15_word.j3] at h, fun _ _ _ _ _ r h => by simp [ashlarref15_word.j4] at h, fun _ _ _ _ r h => by simp [ashlarref15_word.l1] at h⟩
  | k + 1 => by
    obtain ⟨ih0, ih1, ih2, ih3, ih4⟩ := ashlarref15_word.mono_l k
    refine ⟨?_, ?_, ?_, ?_, ?_⟩
    · intro y0 y1 y2
      unfold ashlarref15_word.l0
      repeat' first
      | (with_reducible exact ih0 _ _ _)
      | (with_reducible exact ih1 _ _ _)
      | (with_reducible exact ih2 _ _ _ _)
      | (with_reducible exact ih3 _ _ _ _ _)
      | (with_reducible exact ih4 _ _ _ _)
      | (with_reducible exact LeO.refl _)
      | (with_reducible exact LeO.none _)
      | (with_reducible refine LeO.ite ?_ ?_)
      | (with_reducible refine LeO.bind ?_ (fun _ => ?_))
      | exact ih0 _ _ _
      | exact ih1 _ _ _
      | exact ih2 _ _ _ _
      | exact ih3 _ _ _ _ _
      | exact ih4 _ _ _ _
      | exact LeO.none _
      | refine LeO.ite ?_ ?_
      | refine LeO.bind ?_ (fun _ => ?_)
    · intro y0 y1 y2
      unfold ashlarref15_word.j1
      repeat' first
      | (with_reducible exact ih0 _ _ _)
      | (with_reducible exact ih1 _ _ _)
      | (with_reducible exact ih2 _ _ _ _)
      | (with_reducible exact ih3 _ _ _ _ _)
      | (with_reducible exact ih4 _ _ _ _)
      | (with_reducible exact LeO.refl _)
      | (with_reducible exact LeO.none _)
      | (with_reducible refine LeO.ite ?_ ?_)
      | (with_reducible refine LeO.bind ?_ (fun _ => ?_))
      | exact ih0 _ _ _
      | exact ih1 _ _ _
      | exact ih2 _ _ _ _
      | exact ih3 _ _ _ _ _
      | exact ih4 _ _ _ _
      | exact LeO.none _
      | refine LeO.ite ?_ ?_
      | refine LeO.bind ?_ (fun _ => ?_)
    · intro y0 y1 y2 y3
      unfold ashlarref15_word.j3
      repeat' first
      | (with_reducible exact ih0 _ _ _)
      | (with_reducible exact ih1 _ _ _)
      | (with_reducible exact ih2 _ _ _ _)
      | (with_reducible exact ih3 _ _ _ _ _)
      | (with_reducible exact ih4 _ _ _ _)
      | (with_reducible exact LeO.refl _)
      | (with_reducible exact LeO.none _)
      | (with_reducible refine LeO.ite ?_ ?_)
      | (with_reducible refine LeO.bind ?_ (fun _ => ?_))
      | exact ih0 _ _ _
      | exact ih1 _ _ _
      | exact ih2 _ _ _ _
      | exact ih3 _ _ _ _ _
      | exact ih4 _ _ _ _
      | exact LeO.none _
      | refine LeO.ite ?_ ?_
      | refine LeO.bind ?_ (fun _ => ?_)
    · intro y0 y1 y2 y3 y4
      unfold ashlarref15_word.j4
      repeat' first
      | (with_reducible exact ih0 _ _ _)
      | (with_reducible exact ih1 _ _ _)
      | (with_reducible exact ih2 _ _ _ _)
      | (with_reducible exact ih3 _ _ _ _ _)
      | (with_reducible exact ih4 _ _ _ _)
      | (with_reducible exact LeO.refl _)
      | (with_reducible exact LeO.none _)
      | (with_reducible refine LeO.ite ?_ ?_)
      | (with_reducible refine LeO.bind ?_ (fun _ => ?_))
      | exact ih0 _ _ _
      | exact ih1 _ _ _
      | exact ih2 _ _ _ _
      | exact ih3 _ _ _ _ _
      | exact ih4 _ _ _ _
      | exact LeO.none _
      | refine LeO.ite ?_ ?_
      | refine LeO.bind ?_ (fun _ => ?_)
    · intro y0 y1 y2 y3
      unfold ashlarref15_word.l1
      repeat' first
      | (with_reducible exact ih0 _ _ _)
      | (with_reducible exact ih1 _ _ _)
      | (with_reducible exact ih2 _ _ _ _)
      | (with_reducible exact ih3 _ _ _ _ _)
      | (with_reducible exact ih4 _ _ _ _)
      | (with_reducible exact LeO.refl _)
      | (with_reducible exact LeO.none _)
      | (with_reducible refine LeO.ite ?_ ?_)
      | (with_reducible refine LeO.bind ?_ (fun _ => ?_))
      | exact ih0 _ _ _
      | exact ih1 _ _ _
      | exact ih2 _ _ _ _
      | exact ih3 _ _ _ _ _
      | exact ih4 _ _ _ _
      | exact LeO.none _
      | refine LeO.ite ?_ ?_
      | refine LeO.bind ?_ (fun _ => ?_)
theorem ashlarref15_word.mono : ∀ a0 a1 k, LeO (ashlarref15_word.f k a0 a1) (ashlarref15_word.f (k + 1) a0 a1) := by
  intro a0 a1 k
  obtain ⟨ih0, ih1, ih2, ih3, ih4⟩ := ashlarref15_word.mono_l k
  unfold ashlarref15_word.f
  repeat' first
      | (with_reducible exact ih0 _ _ _)
      | (with_reducible exact ih1 _ _ _)
      | (with_reducible exact ih2 _ _ _ _)
      | (with_reducible exact ih3 _ _ _ _ _)
      | (with_reducible exact ih4 _ _ _ _)
      | (with_reducible exact LeO.refl _)
      | (with_reducible exact LeO.none _)
      | (with_reducible refine LeO.ite ?_ ?_)
      | (with_reducible refine LeO.bind ?_ (fun _ => ?_))
      | exact ih0 _ _ _
      | exact ih1 _ _ _
      | exact ih2 _ _ _ _
      | exact ih3 _ _ _ _ _
      | exact ih4 _ _ _ _
      | exact LeO.none _
      | refine LeO.ite ?_ ?_
      | refine LeO.bind ?_ (fun _ => ?_)
set_option maxHeartbeats 8000000 in
set_option maxRecDepth 100000 in
theorem ashlarref15_word.calls (k : Nat) (a0 : ByteArray) (a1 : Int) (r : Int) (w : World) (h : ashlarref15_word.f k a0 a1 = some r) :
    Calls Tryd.prog 23 #[.string a0, .int .i64 a1] w fun e w' => e = .returned (.int .i64 r) ∧ Drawn0 w w' := by
  have H : (if 0 ≤ a1 then (if a1 < (a0.size : Int) then ((ashlarref15_letter.f (bt a0 a1)).bind fun t133 => (if t133 = true then (ashlarref15_word.l0 k a0 a1 a1) else (if (bt a0 a1) = 45 then (ashlarref15_word.j1 k a0 a1 (wrap64 (a1 + 1))) else (ashlarref15_word.j1 k a0 a1 a1)))) else (none)) else (none)) = some r := h
  clear h
  by_cases c3 : 0 ≤ a1
  · rw [if_pos c3] at H
    have c3b0 : decide (0 ≤ a1) = true := decide_eq_true c3
    clear c3
    by_cases c4 : a1 < (a0.size : Int)
    · rw [if_pos c4] at H
      have c4b0 : decide (a1 < (a0.size : Int)) = true := decide_eq_true c4
      clear c4
      replace H := Option.bind_eq_some_iff.mp H
      obtain ⟨t133, A60, H⟩ := H
      replace H : (if t133 = true then (ashlarref15_word.l0 k a0 a1 a1) else (if (bt a0 a1) = 45 then (ashlarref15_word.j1 k a0 a1 (wrap64 (a1 + 1))) else (ashlarref15_word.j1 k a0 a1 a1))) = some r := H
      have A6 := Aside0.mk A60
      clear A60
      by_cases c7 : t133 = true
      · subst c7
        have H1 : (ashlarref15_word.l0 k a0 a1 a1) = some r := by rw [if_pos rfl] at H; exact H
        clear H
        have H := H1
        clear H1
        have H' := Aside0.mk H
        clear H
        have p5 : 0 ≤ (a1 : Int) := of_decide_eq_true (by first | (with_reducible assumption) | assumption)
        have q5 : a1 < (a0.size : Int) := of_decide_eq_true (by first | (with_reducible assumption) | assumption)
        have hx5 := bt_at a0 a1
        replace p5 := eq_true p5
        replace q5 := eq_true q5
        go_enter Tryd.func23, Tryd.ntmps23
        go_wp2_with (first | (go_at_call 21; (with_reducible refine (ashlarref15_letter.calls (bt a0 a1) true _ A6.out).mono ?_); rintro e w' ⟨rfl, ⟨nd, rfl⟩⟩))
        go_loopg [5] k (fun kq v5 w' => ∃ (x5_1 : Int), v5 = .int .i64 x5_1 ∧ Aside0 (ashlarref15_word.l0 kq a0 a1 x5_1 = some r) ∧ Aside0 (kq ≤ k) ∧ Drawn0 w w')
        case atStart => exact ⟨(a1), (by first | rfl | (simp; done) | (simp [*]; done)), H', ⟨Nat.le_refl _⟩, by repeat (first | exact Drawn0.refl _ | apply Drawn0.step)⟩
        case round =>
          clear H'
          try clear c2
          try clear p2
          try clear c3
          try clear c3b0
          try clear c4
          try clear c4b0
          try clear p5
          try clear q5
          try clear hx5
          try clear p6
          try clear c7
          try clear p5
          try clear q5
          obtain ⟨x5_1, rfl, HA, HK1, ⟨m1, rfl⟩⟩ := hrel
          cases gk with
          | zero => exact absurd HA.out (by simp [ashlarref15_word.l0])
          | succ k1 =>
            have H := HA.out
            clear HA
            simp only [ashlarref15_word.l0] at H
            by_cases c8 : x5_1 < (a0.size : Int)
            · rw [if_pos c8] at H
              have c8b0 : decide (x5_1 < (a0.size : Int)) = true := decide_eq_true c8
              clear c8
              by_cases c9 : 0 ≤ x5_1
              · rw [if_pos c9] at H
                have c9b0 : decide (0 ≤ x5_1) = true := decide_eq_true c9
                clear c9
                replace H := Option.bind_eq_some_iff.mp H
                obtain ⟨t134, A110, H⟩ := H
                replace H : (if t134 = true then (ashlarref15_word.l0 k1 a0 a1 (wrap64 (x5_1 + 1))) else ((ashlarref15_digit.f (bt a0 x5_1)).bind fun t135 => (if t135 = true then (ashlarref15_word.l0 k1 a0 a1 (wrap64 (x5_1 + 1))) else (if (bt a0 x5_1) = 95 then (ashlarref15_word.l0 k1 a0 a1 (wrap64 (x5_1 + 1))) else (if (bt a0 x5_1) = 45 then (ashlarref15_word.l0 k1 a0 a1 (wrap64 (x5_1 + 1))) else ((ashlarref15_ends.f a0 x5_1).bind fun t136 => (if t136 = true then (some x5_1) else (some a1)))))))) = some r := H
                have A11 := Aside0.mk A110
                clear A110
                by_cases c12 : t134 = true
                · subst c12
                  have H1 : (ashlarref15_word.l0 k1 a0 a1 (wrap64 (x5_1 + 1))) = some r := by rw [if_pos rfl] at H; exact H
                  clear H
                  have H := H1
                  clear H1
                  have H' := Aside0.mk H
                  clear H
                  have p10 : 0 ≤ (x5_1 : Int) := of_decide_eq_true (by first | (with_reducible assumption) | assumption)
                  have q10 : x5_1 < (a0.size : Int) := of_decide_eq_true (by first | (with_reducible assumption) | assumption)
                  have hx10 := bt_at a0 x5_1
                  replace p10 := eq_true p10
                  replace q10 := eq_true q10
                  go_wp2_with (first | (go_at_call 21; (with_reducible refine (ashlarref15_letter.calls (bt a0 x5_1) true _ A11.out).mono ?_); rintro e w' ⟨rfl, ⟨nd, rfl⟩⟩))
                  go_roundg k1
                  case measure => have := HK1.out; omega
                  case rel => exact ⟨(wrap64 (x5_1 + 1)), (by first | rfl | (simp; done) | (simp [*]; done)), H', ⟨by have := HK1.out; omega⟩, by repeat (first | exact Drawn0.refl _ | apply Drawn0.step)⟩
                · replace c12 := Bool.eq_false_iff.mpr c12
                  subst c12
                  have H1 : ((ashlarref15_digit.f (bt a0 x5_1)).bind fun t135 => (if t135 = true then (ashlarref15_word.l0 k1 a0 a1 (wrap64 (x5_1 + 1))) else (if (bt a0 x5_1) = 95 then (ashlarref15_word.l0 k1 a0 a1 (wrap64 (x5_1 + 1))) else (if (bt a0 x5_1) = 45 then (ashlarref15_word.l0 k1 a0 a1 (wrap64 (x5_1 + 1))) else ((ashlarref15_ends.f a0 x5_1).bind fun t136 => (if t136 = true then (some x5_1) else (some a1))))))) = some r := by rw [if_neg (show ¬ (false = true) by decide)] at H; exact H
                  clear H
                  have H := H1
                  clear H1
                  replace H := Option.bind_eq_some_iff.mp H
                  obtain ⟨t135, A140, H⟩ := H
                  replace H : (if t135 = true then (ashlarref15_word.l0 k1 a0 a1 (wrap64 (x5_1 + 1))) else (if (bt a0 x5_1) = 95 then (ashlarref15_word.l0 k1 a0 a1 (wrap64 (x5_1 + 1))) else (if (bt a0 x5_1) = 45 then (ashlarref15_word.l0 k1 a0 a1 (wrap64 (x5_1 + 1))) else ((ashlarref15_ends.f a0 x5_1).bind fun t136 => (if t136 = true then (some x5_1) else (some a1)))))) = some r := H
                  have A14 := Aside0.mk A140
                  clear A140
                  by_cases c15 : t135 = true
                  · subst c15
                    have H1 : (ashlarref15_word.l0 k1 a0 a1 (wrap64 (x5_1 + 1))) = some r := by rw [if_pos rfl] at H; exact H
                    clear H
                    have H := H1
                    clear H1
                    have H' := Aside0.mk H
                    clear H
                    have p10 : 0 ≤ (x5_1 : Int) := of_decide_eq_true (by first | (with_reducible assumption) | assumption)
                    have q10 : x5_1 < (a0.size : Int) := of_decide_eq_true (by first | (with_reducible assumption) | assumption)
                    have hx10 := bt_at a0 x5_1
                    replace p10 := eq_true p10
                    replace q10 := eq_true q10
                    go_wp2_with (first | (go_at_call 21; (with_reducible refine (ashlarref15_letter.calls (bt a0 x5_1) false _ A11.out).mono ?_); rintro e w' ⟨rfl, ⟨nd, rfl⟩⟩; have p13 : 0 ≤ (x5_1 : Int) := of_decide_eq_true (by first | (with_reducible assumption) | assumption); have q13 : x5_1 < (a0.size : Int) := of_decide_eq_true (by first | (with_reducible assumption) | assumption); have hx13 := bt_at a0 x5_1; replace p13 := eq_true p13; replace q13 := eq_true q13) | (go_at_call 22; (with_reducible refine (ashlarref15_digit.calls (bt a0 x5_1) true _ A14.out).mono ?_); rintro e w' ⟨rfl, ⟨nd, rfl⟩⟩))
                    go_roundg k1
                    case measure => have := HK1.out; omega
                    case rel => exact ⟨(wrap64 (x5_1 + 1)), (by first | rfl | (simp; done) | (simp [*]; done)), H', ⟨by have := HK1.out; omega⟩, by repeat (first | exact Drawn0.refl _ | apply Drawn0.step)⟩
                  · replace c15 := Bool.eq_false_iff.mpr c15
                    subst c15
                    have H1 : (if (bt a0 x5_1) = 95 then (ashlarref15_word.l0 k1 a0 a1 (wrap64 (x5_1 + 1))) else (if (bt a0 x5_1) = 45 then (ashlarref15_word.l0 k1 a0 a1 (wrap64 (x5_1 + 1))) else ((ashlarref15_ends.f a0 x5_1).bind fun t136 => (if t136 = true then (some x5_1) else (some a1))))) = some r := by rw [if_neg (show ¬ (false = true) by decide)] at H; exact H
                    clear H
                    have H := H1
                    clear H1
                    by_cases c17 : (bt a0 x5_1) = 95
                    · rw [if_pos c17] at H
                      have c17b0 : ((bt a0 x5_1) == 95) = true := beq_iff_eq.mpr c17
                      have c17b1 : ((bt a0 x5_1) != 95) = false := bne_eq_false_iff_eq.mpr c17
                      clear c17
                      have H' := Aside0.mk H
                      clear H
                      have p10 : 0 ≤ (x5_1 : Int) := of_decide_eq_true (by first | (with_reducible assumption) | assumption)
                      have q10 : x5_1 < (a0.size : Int) := of_decide_eq_true (by first | (with_reducible assumption) | assumption)
                      have hx10 := bt_at a0 x5_1
                      replace p10 := eq_true p10
                      replace q10 := eq_true q10
                      go_wp2_with (first | (go_at_call 21; (with_reducible refine (ashlarref15_letter.calls (bt a0 x5_1) false _ A11.out).mono ?_); rintro e w' ⟨rfl, ⟨nd, rfl⟩⟩; have p13 : 0 ≤ (x5_1 : Int) := of_decide_eq_true (by first | (with_reducible assumption) | assumption); have q13 : x5_1 < (a0.size : Int) := of_decide_eq_true (by first | (with_reducible assumption) | assumption); have hx13 := bt_at a0 x5_1; replace p13 := eq_true p13; replace q13 := eq_true q13) | (go_at_call 22; (with_reducible refine (ashlarref15_digit.calls (bt a0 x5_1) false _ A14.out).mono ?_); rintro e w' ⟨rfl, ⟨nd, rfl⟩⟩; have p16 : 0 ≤ (x5_1 : Int) := of_decide_eq_true (by first | (with_reducible assumption) | assumption); have q16 : x5_1 < (a0.size : Int) := of_decide_eq_true (by first | (with_reducible assumption) | assumption); have hx16 := bt_at a0 x5_1; replace p16 := eq_true p16; replace q16 := eq_true q16))
                      go_roundg k1
                      case measure => have := HK1.out; omega
                      case rel => exact ⟨(wrap64 (x5_1 + 1)), (by first | rfl | (simp; done) | (simp [*]; done)), H', ⟨by have := HK1.out; omega⟩, by repeat (first | exact Drawn0.refl _ | apply Drawn0.step)⟩
                    · rw [if_neg c17] at H
                      have c17b0 : ((bt a0 x5_1) == 95) = false := beq_eq_false_iff_ne.mpr c17
                      have c17b1 : ((bt a0 x5_1) != 95) = true := bne_iff_ne.mpr c17
                      by_cases c19 : (bt a0 x5_1) = 45
                      · rw [if_pos c19] at H
                        have c19b0 : ((bt a0 x5_1) == 45) = true := beq_iff_eq.mpr c19
                        have c19b1 : ((bt a0 x5_1) != 45) = false := bne_eq_false_iff_eq.mpr c19
                        clear c19
                        have H' := Aside0.mk H
                        clear H
                        have p10 : 0 ≤ (x5_1 : Int) := of_decide_eq_true (by first | (with_reducible assumption) | assumption)
                        have q10 : x5_1 < (a0.size : Int) := of_decide_eq_true (by first | (with_reducible assumption) | assumption)
                        have hx10 := bt_at a0 x5_1
                        replace p10 := eq_true p10
                        replace q10 := eq_true q10
                        go_wp2_with (first | (go_at_call 21; (with_reducible refine (ashlarref15_letter.calls (bt a0 x5_1) false _ A11.out).mono ?_); rintro e w' ⟨rfl, ⟨nd, rfl⟩⟩; have p13 : 0 ≤ (x5_1 : Int) := of_decide_eq_true (by first | (with_reducible assumption) | assumption); have q13 : x5_1 < (a0.size : Int) := of_decide_eq_true (by first | (with_reducible assumption) | assumption); have hx13 := bt_at a0 x5_1; replace p13 := eq_true p13; replace q13 := eq_true q13) | (go_at_call 22; (with_reducible refine (ashlarref15_digit.calls (bt a0 x5_1) false _ A14.out).mono ?_); rintro e w' ⟨rfl, ⟨nd, rfl⟩⟩; have p16 : 0 ≤ (x5_1 : Int) := of_decide_eq_true (by first | (with_reducible assumption) | assumption); have q16 : x5_1 < (a0.size : Int) := of_decide_eq_true (by first | (with_reducible assumption) | assumption); have hx16 := bt_at a0 x5_1; replace p16 := eq_true p16; replace q16 := eq_true q16; have p18 : 0 ≤ (x5_1 : Int) := of_decide_eq_true (by first | (with_reducible assumption) | assumption); have q18 : x5_1 < (a0.size : Int) := of_decide_eq_true (by first | (with_reducible assumption) | assumption); have hx18 := bt_at a0 x5_1; replace p18 := eq_true p18; replace q18 := eq_true q18))
                        go_roundg k1
                        case measure => have := HK1.out; omega
                        case rel => exact ⟨(wrap64 (x5_1 + 1)), (by first | rfl | (simp; done) | (simp [*]; done)), H', ⟨by have := HK1.out; omega⟩, by repeat (first | exact Drawn0.refl _ | apply Drawn0.step)⟩
                      · rw [if_neg c19] at H
                        have c19b0 : ((bt a0 x5_1) == 45) = false := beq_eq_false_iff_ne.mpr c19
                        have c19b1 : ((bt a0 x5_1) != 45) = true := bne_iff_ne.mpr c19
                        replace H := Option.bind_eq_some_iff.mp H
                        obtain ⟨t136, A200, H⟩ := H
                        replace H : (if t136 = true then (some x5_1) else (some a1)) = some r := H
                        have A20 := Aside0.mk A200
                        clear A200
                        by_cases c21 : t136 = true
                        · subst c21
                          have H1 : (some x5_1) = some r := by rw [if_pos rfl] at H; exact H
                          clear H
                          have H := H1
                          clear H1
                          obtain rfl := Option.some.inj H
                          have p10 : 0 ≤ (x5_1 : Int) := of_decide_eq_true (by first | (with_reducible assumption) | assumption)
                          have q10 : x5_1 < (a0.size : Int) := of_decide_eq_true (by first | (with_reducible assumption) | assumption)
                          have hx10 := bt_at a0 x5_1
                          replace p10 := eq_true p10
                          replace q10 := eq_true q10
                          go_wp2_with (first | (go_at_call 21; (with_reducible refine (ashlarref15_letter.calls (bt a0 x5_1) false _ A11.out).mono ?_); rintro e w' ⟨rfl, ⟨nd, rfl⟩⟩; have p13 : 0 ≤ (x5_1 : Int) := of_decide_eq_true (by first | (with_reducible assumption) | assumption); have q13 : x5_1 < (a0.size : Int) := of_decide_eq_true (by first | (with_reducible assumption) | assumption); have hx13 := bt_at a0 x5_1; replace p13 := eq_true p13; replace q13 := eq_true q13) | (go_at_call 22; (with_reducible refine (ashlarref15_digit.calls (bt a0 x5_1) false _ A14.out).mono ?_); rintro e w' ⟨rfl, ⟨nd, rfl⟩⟩; have p16 : 0 ≤ (x5_1 : Int) := of_decide_eq_true (by first | (with_reducible assumption) | assumption); have q16 : x5_1 < (a0.size : Int) := of_decide_eq_true (by first | (with_reducible assumption) | assumption); have hx16 := bt_at a0 x5_1; replace p16 := eq_true p16; replace q16 := eq_true q16; have p18 : 0 ≤ (x5_1 : Int) := of_decide_eq_true (by first | (with_reducible assumption) | assumption); have q18 : x5_1 < (a0.size : Int) := of_decide_eq_true (by first | (with_reducible assumption) | assumption); have hx18 := bt_at a0 x5_1; replace p18 := eq_true p18; replace q18 := eq_true q18) | (go_at_call 35; (with_reducible refine (ashlarref15_ends.calls a0 x5_1 true _ A20.out).mono ?_); rintro e w' ⟨rfl, ⟨nd, rfl⟩⟩))
                          go_ret
                          exact ⟨by first | rfl | (simp; done) | (simp [*]; done), by repeat (first | exact Drawn0.refl _ | apply Drawn0.step)⟩
                        · replace c21 := Bool.eq_false_iff.mpr c21
                          subst c21
                          have H1 : (some a1) = some r := by rw [if_neg (show ¬ (false = true) by decide)] at H; exact H
                          clear H
                          have H := H1
                          clear H1
                          obtain rfl := Option.some.inj H
                          have p10 : 0 ≤ (x5_1 : Int) := of_decide_eq_true (by first | (with_reducible assumption) | assumption)
                          have q10 : x5_1 < (a0.size : Int) := of_decide_eq_true (by first | (with_reducible assumption) | assumption)
                          have hx10 := bt_at a0 x5_1
                          replace p10 := eq_true p10
                          replace q10 := eq_true q10
                          go_wp2_with (first | (go_at_call 21; (with_reducible refine (ashlarref15_letter.calls (bt a0 x5_1) false _ A11.out).mono ?_); rintro e w' ⟨rfl, ⟨nd, rfl⟩⟩; have p13 : 0 ≤ (x5_1 : Int) := of_decide_eq_true (by first | (with_reducible assumption) | assumption); have q13 : x5_1 < (a0.size : Int) := of_decide_eq_true (by first | (with_reducible assumption) | assumption); have hx13 := bt_at a0 x5_1; replace p13 := eq_true p13; replace q13 := eq_true q13) | (go_at_call 22; (with_reducible refine (ashlarref15_digit.calls (bt a0 x5_1) false _ A14.out).mono ?_); rintro e w' ⟨rfl, ⟨nd, rfl⟩⟩; have p16 : 0 ≤ (x5_1 : Int) := of_decide_eq_true (by first | (with_reducible assumption) | assumption); have q16 : x5_1 < (a0.size : Int) := of_decide_eq_true (by first | (with_reducible assumption) | assumption); have hx16 := bt_at a0 x5_1; replace p16 := eq_true p16; replace q16 := eq_true q16; have p18 : 0 ≤ (x5_1 : Int) := of_decide_eq_true (by first | (with_reducible assumption) | assumption); have q18 : x5_1 < (a0.size : Int) := of_decide_eq_true (by first | (with_reducible assumption) | assumption); have hx18 := bt_at a0 x5_1; replace p18 := eq_true p18; replace q18 := eq_true q18) | (go_at_call 35; (with_reducible refine (ashlarref15_ends.calls a0 x5_1 false _ A20.out).mono ?_); rintro e w' ⟨rfl, ⟨nd, rfl⟩⟩))
                          go_ret
                          exact ⟨by first | rfl | (simp; done) | (simp [*]; done), by repeat (first | exact Drawn0.refl _ | apply Drawn0.step)⟩
              · rw [if_neg c9] at H
                exact absurd H (by simp)
            · rw [if_neg c8] at H
              have c8b0 : decide (x5_1 < (a0.size : Int)) = false := decide_eq_false c8
              clear c8
              replace H := Option.bind_eq_some_iff.mp H
              obtain ⟨t137, A220, H⟩ := H
              replace H : (if t137 = true then (some x5_1) else (some a1)) = some r := H
              have A22 := Aside0.mk A220
              clear A220
              by_cases c23 : t137 = true
              · subst c23
                have H1 : (some x5_1) = some r := by rw [if_pos rfl] at H; exact H
                clear H
                have H := H1
                clear H1
                obtain rfl := Option.some.inj H
                go_wp2_with (first | (go_at_call 35; (with_reducible refine (ashlarref15_ends.calls a0 x5_1 true _ A22.out).mono ?_); rintro e w' ⟨rfl, ⟨nd, rfl⟩⟩))
                go_ret
                exact ⟨by first | rfl | (simp; done) | (simp [*]; done), by repeat (first | exact Drawn0.refl _ | apply Drawn0.step)⟩
              · replace c23 := Bool.eq_false_iff.mpr c23
                subst c23
                have H1 : (some a1) = some r := by rw [if_neg (show ¬ (false = true) by decide)] at H; exact H
                clear H
                have H := H1
                clear H1
                obtain rfl := Option.some.inj H
                go_wp2_with (first | (go_at_call 35; (with_reducible refine (ashlarref15_ends.calls a0 x5_1 false _ A22.out).mono ?_); rintro e w' ⟨rfl, ⟨nd, rfl⟩⟩))
                go_ret
                exact ⟨by first | rfl | (simp; done) | (simp [*]; done), by repeat (first | exact Drawn0.refl _ | apply Drawn0.step)⟩
      · replace c7 := Bool.eq_false_iff.mpr c7
        subst c7
        have H1 : (if (bt a0 a1) = 45 then (ashlarref15_word.j1 k a0 a1 (wrap64 (a1 + 1))) else (ashlarref15_word.j1 k a0 a1 a1)) = some r := by rw [if_neg (show ¬ (false = true) by decide)] at H; exact H
        clear H
        have H := H1
        clear H1
        have HC25 := Aside0.mk H
        clear H
        have p5 : 0 ≤ (a1 : Int) := of_decide_eq_true (by first | (with_reducible assumption) | assumption)
        have q5 : a1 < (a0.size : Int) := of_decide_eq_true (by first | (with_reducible assumption) | assumption)
        have hx5 := bt_at a0 a1
        replace p5 := eq_true p5
        replace q5 := eq_true q5
        go_enter Tryd.func23, Tryd.ntmps23
        go_upto_if 51 with (first | ((with_reducible refine gate_callee (f := 21) rfl ?_); refine goesL_ (some 12) rfl rfl Tryd.func21 (by kernel_rfl) rfl #[.int .u8 (bt a0 a1)] rfl (by (try simp only [List.map_toArray, List.map_cons, List.map_nil]); first | done | rfl | (simp only [List.length_drop, List.length_take]; rfl)) ?_; (with_reducible refine (ashlarref15_letter.calls (bt a0 a1) false _ A6.out).mono ?_); rintro e w' ⟨rfl, ⟨nd, rfl⟩⟩; refine ⟨_, rfl, ?_⟩; have p24 : 0 ≤ (a1 : Int) := of_decide_eq_true (by first | (with_reducible assumption) | assumption); have q24 : a1 < (a0.size : Int) := of_decide_eq_true (by first | (with_reducible assumption) | assumption); have hx24 := bt_at a0 a1; replace p24 := eq_true p24; replace q24 := eq_true q24))
        (try simp only [Act.put, List.setIfInBounds_toArray, List.set_cons_zero, List.set_cons_succ])
        go_cut [5] (fun v5 wc => ∃ (kq : Nat) (x5_24 : Int), v5 = .int .i64 x5_24 ∧ Aside0 (ashlarref15_word.j1 kq a0 a1 x5_24 = some r) ∧ Aside0 (kq ≤ k) ∧ Drawn0 w wc)
        case first =>
          have H := HC25.out
          clear HC25
          by_cases c26 : (bt a0 a1) = 45
          · rw [if_pos c26] at H
            have c26b0 : ((bt a0 a1) == 45) = true := beq_iff_eq.mpr c26
            have c26b1 : ((bt a0 a1) != 45) = false := bne_eq_false_iff_eq.mpr c26
            clear c26
            (first | rw [c26b0] | (simp only [i64_w, i32_w]; rw [c26b0]) | skip)
            have H' := Aside0.mk H
            clear H
            go_wp2
            go_meet
            case rel => exact ⟨_, (wrap64 (a1 + 1)), (by first | rfl | (simp; done) | (simp [*]; done)), H', ⟨by first | omega | exact Nat.le_refl _⟩, by repeat (first | exact Drawn0.refl _ | apply Drawn0.step)⟩
          · rw [if_neg c26] at H
            have c26b0 : ((bt a0 a1) == 45) = false := beq_eq_false_iff_ne.mpr c26
            have c26b1 : ((bt a0 a1) != 45) = true := bne_iff_ne.mpr c26
            (first | rw [c26b0] | (simp only [i64_w, i32_w]; rw [c26b0]) | skip)
            have H' := Aside0.mk H
            clear H
            go_wp2
            go_meet
            case rel => exact ⟨_, (a1), (by first | rfl | (simp; done) | (simp [*]; done)), H', ⟨by first | omega | exact Nat.le_refl _⟩, by repeat (first | exact Drawn0.refl _ | apply Drawn0.step)⟩
        case rest =>
          clear HC25
          try clear c1
          try clear p1
          try clear q1
          try clear hx1
          try clear c2
          try clear p2
          try clear q2
          try clear hx2
          try clear c3
          try clear c3b0
          try clear c4
          try clear c4b0
          try clear p5
          try clear q5
          try clear hx5
          try clear p6
          try clear c7
          try clear c8
          try clear c8b0
          try clear c9
          try clear c9b0
          try clear p10
          try clear q10
          try clear hx10
          try clear c12
          try clear p13
          try clear q13
          try clear hx13
          try clear c15
          try clear p16
          try clear q16
          try clear hx16
          try clear c17
          try clear c17b0
          try clear c17b1
          try clear p18
          try clear q18
          try clear hx18
          try clear c19
          try clear c19b0
          try clear c19b1
          try clear c21
          try clear c23
          try clear p24
          try clear q24
          try clear hx24
          try clear c26
          try clear c26b0
          try clear c26b1
          try clear p10
          try clear p13
          try clear p16
          try clear p18
          try clear p2
          try clear p24
          try clear p5
          try clear p6
          try clear q10
          try clear q13
          try clear q16
          try clear q18
          try clear q24
          try clear q5
          obtain ⟨kq, x5_24, rfl, HA, HJ24, ⟨mc24, rfl⟩⟩ := hcut
          cases kq with
          | zero => exact absurd HA.out (by simp [ashlarref15_word.j1])
          | succ kj24 =>
            have H := HA.out
            clear HA
            simp only [ashlarref15_word.j1] at H
            have HC27 := Aside0.mk H
            clear H
            go_upto_block 2 with (fail)
            go_cut [5] (fun v5 wc => ∃ (kq : Nat) (x5_26 : Int), v5 = .int .i64 x5_26 ∧ Aside0 (ashlarref15_word.j3 kq a0 a1 x5_26 x5_24 = some r) ∧ Aside0 (kq ≤ kj24) ∧ Drawn0 w wc)
            case first =>
              have H := HC27.out
              clear HC27
              have H' := Aside0.mk H
              clear H
              go_wp2
              go_loopg [5] kj24 (fun kq v5 w' => ∃ (x5_2 : Int), v5 = .int .i64 x5_2 ∧ Aside0 (ashlarref15_word.l1 kq a0 a1 x5_2 x5_24 = some r) ∧ Aside0 (kq ≤ kj24) ∧ Drawn0 w w')
              case atStart => exact ⟨(x5_24), (by first | rfl | (simp; done) | (simp [*]; done)), H', ⟨Nat.le_refl _⟩, by repeat (first | exact Drawn0.refl _ | apply Drawn0.step)⟩
              case round =>
                clear H'
                try clear c1
                try clear p1
                try clear q1
                try clear hx1
                try clear c2
                try clear p2
                try clear q2
                try clear hx2
                try clear c3
                try clear c3b0
                try clear c4
                try clear c4b0
                try clear p5
                try clear q5
                try clear hx5
                try clear p6
                try clear c7
                try clear c8
                try clear c8b0
                try clear c9
                try clear c9b0
                try clear p10
                try clear q10
                try clear hx10
                try clear c12
                try clear p13
                try clear q13
                try clear hx13
                try clear c15
                try clear p16
                try clear q16
                try clear hx16
                try clear c17
                try clear c17b0
                try clear c17b1
                try clear p18
                try clear q18
                try clear hx18
                try clear c19
                try clear c19b0
                try clear c19b1
                try clear c21
                try clear c23
                try clear c24
                try clear p24
                try clear q24
                try clear hx24
                try clear c26
                try clear c26b0
                try clear c26b1
                try clear p1
                try clear p10
                try clear p13
                try clear p16
                try clear p18
                try clear p2
                try clear p24
                try clear p5
                try clear p6
                try clear q1
                try clear q10
                try clear q13
                try clear q16
                try clear q18
                try clear q2
                try clear q24
                try clear q5
                obtain ⟨x5_2, rfl, HA, HK2, ⟨m2, rfl⟩⟩ := hrel
                cases gk with
                | zero => exact absurd HA.out (by simp [ashlarref15_word.l1])
                | succ k2 =>
                  have H := HA.out
                  clear HA
                  simp only [ashlarref15_word.l1] at H
                  by_cases c28 : x5_2 < (a0.size : Int)
                  · rw [if_pos c28] at H
                    have c28b0 : decide (x5_2 < (a0.size : Int)) = true := decide_eq_true c28
                    clear c28
                    (first | rw [c28b0] | (simp only [i64_w, i32_w]; rw [c28b0]) | skip)
                    by_cases c29 : 0 ≤ x5_2
                    · rw [if_pos c29] at H
                      have c29b0 : decide (0 ≤ x5_2) = true := decide_eq_true c29
                      clear c29
                      replace H := Option.bind_eq_some_iff.mp H
                      obtain ⟨t138, A310, H⟩ := H
                      replace H : (if t138 = true then (ashlarref15_word.l1 k2 a0 a1 (wrap64 (x5_2 + 1)) x5_24) else (ashlarref15_word.j3 k2 a0 a1 x5_2 x5_24)) = some r := H
                      have A31 := Aside0.mk A310
                      clear A310
                      by_cases c32 : t138 = true
                      · subst c32
                        have H1 : (ashlarref15_word.l1 k2 a0 a1 (wrap64 (x5_2 + 1)) x5_24) = some r := by rw [if_pos rfl] at H; exact H
                        clear H
                        have H := H1
                        clear H1
                        have H' := Aside0.mk H
                        clear H
                        have p30 : 0 ≤ (x5_2 : Int) := of_decide_eq_true (by first | (with_reducible assumption) | assumption)
                        have q30 : x5_2 < (a0.size : Int) := of_decide_eq_true (by first | (with_reducible assumption) | assumption)
                        have hx30 := bt_at a0 x5_2
                        replace p30 := eq_true p30
                        replace q30 := eq_true q30
                        go_wp2_with (first | (go_at_call 22; (with_reducible refine (ashlarref15_digit.calls (bt a0 x5_2) true _ A31.out).mono ?_); rintro e w' ⟨rfl, ⟨nd, rfl⟩⟩))
                        go_roundg k2
                        case measure => have := HJ24.out; have := HK2.out; omega
                        case rel => exact ⟨(wrap64 (x5_2 + 1)), (by first | rfl | (simp; done) | (simp [*]; done)), H', ⟨by have := HJ24.out; have := HK2.out; omega⟩, by repeat (first | exact Drawn0.refl _ | apply Drawn0.step)⟩
                      · replace c32 := Bool.eq_false_iff.mpr c32
                        subst c32
                        have H1 : (ashlarref15_word.j3 k2 a0 a1 x5_2 x5_24) = some r := by rw [if_neg (show ¬ (false = true) by decide)] at H; exact H
                        clear H
                        have H := H1
                        clear H1
                        have H' := Aside0.mk H
                        clear H
                        have p30 : 0 ≤ (x5_2 : Int) := of_decide_eq_true (by first | (with_reducible assumption) | assumption)
                        have q30 : x5_2 < (a0.size : Int) := of_decide_eq_true (by first | (with_reducible assumption) | assumption)
                        have hx30 := bt_at a0 x5_2
                        replace p30 := eq_true p30
                        replace q30 := eq_true q30
                        go_wp2_with (first | (go_at_call 22; (with_reducible refine (ashlarref15_digit.calls (bt a0 x5_2) false _ A31.out).mono ?_); rintro e w' ⟨rfl, ⟨nd, rfl⟩⟩))
                        go_meet
                        case rel => exact ⟨_, (x5_2), (by first | rfl | (simp; done) | (simp [*]; done)), H', ⟨by have := HJ24.out; have := HK2.out; first | omega | exact Nat.le_refl _⟩, by repeat (first | exact Drawn0.refl _ | apply Drawn0.step)⟩
                    · rw [if_neg c29] at H
                      exact absurd H (by simp)
                  · rw [if_neg c28] at H
                    have c28b0 : decide (x5_2 < (a0.size : Int)) = false := decide_eq_false c28
                    clear c28
                    (first | rw [c28b0] | (simp only [i64_w, i32_w]; rw [c28b0]) | skip)
                    have H' := Aside0.mk H
                    clear H
                    go_wp2
                    go_meet
                    case rel => exact ⟨_, (x5_2), (by first | rfl | (simp; done) | (simp [*]; done)), H', ⟨by have := HJ24.out; have := HK2.out; first | omega | exact Nat.le_refl _⟩, by repeat (first | exact Drawn0.refl _ | apply Drawn0.step)⟩
            case rest =>
              clear HC27
              try clear c1
              try clear p1
              try clear q1
              try clear hx1
              try clear c2
              try clear p2
              try clear q2
              try clear hx2
              try clear c3
              try clear c3b0
              try clear p3
              try clear q3
              try clear hx3
              try clear c4
              try clear c4b0
              try clear p5
              try clear q5
              try clear hx5
              try clear p6
              try clear c7
              try clear c8
              try clear c8b0
              try clear c9
              try clear c9b0
              try clear p10
              try clear q10
              try clear hx10
              try clear c12
              try clear p13
              try clear q13
              try clear hx13
              try clear c15
              try clear p16
              try clear q16
              try clear hx16
              try clear c17
              try clear c17b0
              try clear c17b1
              try clear p18
              try clear q18
              try clear hx18
              try clear c19
              try clear c19b0
              try clear c19b1
              try clear c21
              try clear c23
              try clear c24
              try clear p24
              try clear q24
              try clear hx24
              try clear c26
              try clear c26b0
              try clear c26b1
              try clear c28
              try clear c28b0
              try clear c29
              try clear c29b0
              try clear p30
              try clear q30
              try clear hx30
              try clear c32
              try clear p1
              try clear p10
              try clear p13
              try clear p16
              try clear p18
              try clear p2
              try clear p24
              try clear p30
              try clear p5
              try clear p6
              try clear q1
              try clear q10
              try clear q13
              try clear q16
              try clear q18
              try clear q2
              try clear q24
              try clear q30
              try clear q5
              obtain ⟨kq, x5_26, rfl, HA, HJ26, ⟨mc26, rfl⟩⟩ := hcut
              cases kq with
              | zero => exact absurd HA.out (by simp [ashlarref15_word.j3])
              | succ kj26 =>
                have H := HA.out
                clear HA
                simp only [ashlarref15_word.j3] at H
                have HC33 := Aside0.mk H
                clear H
                go_upto_region 13 with (fail)
                go_cut [98] (fun v98 wc => ∃ (kq : Nat) (x98_32 : Bool), v98 = .bool x98_32 ∧ Aside0 (ashlarref15_word.j4 kq a0 a1 x5_26 x5_24 x98_32 = some r) ∧ Aside0 (kq ≤ kj26) ∧ Drawn0 w wc)
                case first =>
                  have H := HC33.out
                  clear HC33
                  by_cases c34 : x5_26 = x5_24
                  · rw [if_pos c34] at H
                    have c34b0 : (x5_26 == x5_24) = true := beq_iff_eq.mpr c34
                    have c34b1 : (x5_26 != x5_24) = false := bne_eq_false_iff_eq.mpr c34
                    clear c34
                    (first | rw [c34b0] | (simp only [i64_w, i32_w]; rw [c34b0]) | skip)
                    have H' := Aside0.mk H
                    clear H
                    go_wp2
                    go_meet
                    case rel => exact ⟨_, (true), (by first | rfl | (simp; done) | (simp [*]; done)), H', ⟨by have := HJ24.out; have := HJ26.out; first | omega | exact Nat.le_refl _⟩, by repeat (first | exact Drawn0.refl _ | apply Drawn0.step)⟩
                  · rw [if_neg c34] at H
                    have c34b0 : (x5_26 == x5_24) = false := beq_eq_false_iff_ne.mpr c34
                    have c34b1 : (x5_26 != x5_24) = true := bne_iff_ne.mpr c34
                    (first | rw [c34b0] | (simp only [i64_w, i32_w]; rw [c34b0]) | skip)
                    by_cases c35 : (wrap64 (x5_26 - x5_24)) > 19
                    · rw [if_pos c35] at H
                      have c35b0 : decide (19 < (wrap64 (x5_26 - x5_24))) = true := decide_eq_true c35
                      clear c35
                      have H' := Aside0.mk H
                      clear H
                      go_wp2
                      go_meet
                      case rel => exact ⟨_, (true), (by first | rfl | (simp; done) | (simp [*]; done)), H', ⟨by have := HJ24.out; have := HJ26.out; first | omega | exact Nat.le_refl _⟩, by repeat (first | exact Drawn0.refl _ | apply Drawn0.step)⟩
                    · rw [if_neg c35] at H
                      have c35b0 : decide (19 < (wrap64 (x5_26 - x5_24))) = false := decide_eq_false c35
                      clear c35
                      by_cases c36 : 0 ≤ x5_24
                      · rw [if_pos c36] at H
                        have c36b0 : decide (0 ≤ x5_24) = true := decide_eq_true c36
                        clear c36
                        by_cases c37 : x5_24 < (a0.size : Int)
                        · rw [if_pos c37] at H
                          have c37b0 : decide (x5_24 < (a0.size : Int)) = true := decide_eq_true c37
                          clear c37
                          by_cases c39 : (bt a0 x5_24) = 48
                          · rw [if_pos c39] at H
                            have c39b0 : ((bt a0 x5_24) == 48) = true := beq_iff_eq.mpr c39
                            have c39b1 : ((bt a0 x5_24) != 48) = false := bne_eq_false_iff_eq.mpr c39
                            clear c39
                            by_cases c40 : (wrap64 (x5_26 - x5_24)) > 1
                            · rw [if_pos c40] at H
                              have c40b0 : decide (1 < (wrap64 (x5_26 - x5_24))) = true := decide_eq_true c40
                              clear c40
                              have H' := Aside0.mk H
                              clear H
                              have p38 : 0 ≤ (x5_24 : Int) := of_decide_eq_true (by first | (with_reducible assumption) | assumption)
                              have q38 : x5_24 < (a0.size : Int) := of_decide_eq_true (by first | (with_reducible assumption) | assumption)
                              have hx38 := bt_at a0 x5_24
                              replace p38 := eq_true p38
                              replace q38 := eq_true q38
                              go_wp2
                              go_meet
                              case rel => exact ⟨_, (true), (by first | rfl | (simp; done) | (simp [*]; done)), H', ⟨by have := HJ24.out; have := HJ26.out; first | omega | exact Nat.le_refl _⟩, by repeat (first | exact Drawn0.refl _ | apply Drawn0.step)⟩
                            · rw [if_neg c40] at H
                              have c40b0 : decide (1 < (wrap64 (x5_26 - x5_24))) = false := decide_eq_false c40
                              clear c40
                              by_cases c41 : x5_24 > a1
                              · rw [if_pos c41] at H
                                have c41b0 : decide (a1 < x5_24) = true := decide_eq_true c41
                                clear c41
                                have H' := Aside0.mk H
                                clear H
                                have p38 : 0 ≤ (x5_24 : Int) := of_decide_eq_true (by first | (with_reducible assumption) | assumption)
                                have q38 : x5_24 < (a0.size : Int) := of_decide_eq_true (by first | (with_reducible assumption) | assumption)
                                have hx38 := bt_at a0 x5_24
                                replace p38 := eq_true p38
                                replace q38 := eq_true q38
                                go_wp2
                                go_meet
                                case rel => exact ⟨_, (true), (by first | rfl | (simp; done) | (simp [*]; done)), H', ⟨by have := HJ24.out; have := HJ26.out; first | omega | exact Nat.le_refl _⟩, by repeat (first | exact Drawn0.refl _ | apply Drawn0.step)⟩
                              · rw [if_neg c41] at H
                                have c41b0 : decide (a1 < x5_24) = false := decide_eq_false c41
                                clear c41
                                replace H := Option.bind_eq_some_iff.mp H
                                obtain ⟨t139, A420, H⟩ := H
                                replace H : (ashlarref15_word.j4 kj26 a0 a1 x5_26 x5_24 (!t139)) = some r := H
                                have A42 := Aside0.mk A420
                                clear A420
                                have H' := Aside0.mk H
                                clear H
                                have p38 : 0 ≤ (x5_24 : Int) := of_decide_eq_true (by first | (with_reducible assumption) | assumption)
                                have q38 : x5_24 < (a0.size : Int) := of_decide_eq_true (by first | (with_reducible assumption) | assumption)
                                have hx38 := bt_at a0 x5_24
                                replace p38 := eq_true p38
                                replace q38 := eq_true q38
                                go_wp2_with (first | (go_at_call 35; (with_reducible refine (ashlarref15_ends.calls a0 x5_26 t139 _ A42.out).mono ?_); rintro e w' ⟨rfl, ⟨nd, rfl⟩⟩))
                                go_meet
                                case rel => exact ⟨_, (!t139), (by first | rfl | (simp; done) | (simp [*]; done)), H', ⟨by have := HJ24.out; have := HJ26.out; first | omega | exact Nat.le_refl _⟩, by repeat (first | exact Drawn0.refl _ | apply Drawn0.step)⟩
                          · rw [if_neg c39] at H
                            have c39b0 : ((bt a0 x5_24) == 48) = false := beq_eq_false_iff_ne.mpr c39
                            have c39b1 : ((bt a0 x5_24) != 48) = true := bne_iff_ne.mpr c39
                            replace H := Option.bind_eq_some_iff.mp H
                            obtain ⟨t140, A430, H⟩ := H
                            replace H : (ashlarref15_word.j4 kj26 a0 a1 x5_26 x5_24 (!t140)) = some r := H
                            have A43 := Aside0.mk A430
                            clear A430
                            have H' := Aside0.mk H
                            clear H
                            have p38 : 0 ≤ (x5_24 : Int) := of_decide_eq_true (by first | (with_reducible assumption) | assumption)
                            have q38 : x5_24 < (a0.size : Int) := of_decide_eq_true (by first | (with_reducible assumption) | assumption)
                            have hx38 := bt_at a0 x5_24
                            replace p38 := eq_true p38
                            replace q38 := eq_true q38
                            go_wp2_with (first | (go_at_call 35; (with_reducible refine (ashlarref15_ends.calls a0 x5_26 t140 _ A43.out).mono ?_); rintro e w' ⟨rfl, ⟨nd, rfl⟩⟩))
                            go_meet
                            case rel => exact ⟨_, (!t140), (by first | rfl | (simp; done) | (simp [*]; done)), H', ⟨by have := HJ24.out; have := HJ26.out; first | omega | exact Nat.le_refl _⟩, by repeat (first | exact Drawn0.refl _ | apply Drawn0.step)⟩
                        · rw [if_neg c37] at H
                          exact absurd H (by simp)
                      · rw [if_neg c36] at H
                        exact absurd H (by simp)
                case rest =>
                  clear HC33
                  try clear c1
                  try clear p1
                  try clear q1
                  try clear hx1
                  try clear c2
                  try clear p2
                  try clear q2
                  try clear hx2
                  try clear c3
                  try clear c3b0
                  try clear p3
                  try clear q3
                  try clear hx3
                  try clear c4
                  try clear c4b0
                  try clear p5
                  try clear q5
                  try clear hx5
                  try clear p6
                  try clear c7
                  try clear c8
                  try clear c8b0
                  try clear c9
                  try clear c9b0
                  try clear p10
                  try clear q10
                  try clear hx10
                  try clear c12
                  try clear p13
                  try clear q13
                  try clear hx13
                  try clear c15
                  try clear p16
                  try clear q16
                  try clear hx16
                  try clear c17
                  try clear c17b0
                  try clear c17b1
                  try clear p18
                  try clear q18
                  try clear hx18
                  try clear c19
                  try clear c19b0
                  try clear c19b1
                  try clear c21
                  try clear c23
                  try clear c24
                  try clear p24
                  try clear q24
                  try clear hx24
                  try clear c26
                  try clear c26b0
                  try clear c26b1
                  try clear c28
                  try clear c28b0
                  try clear c29
                  try clear c29b0
                  try clear p30
                  try clear q30
                  try clear hx30
                  try clear c32
                  try clear c34
                  try clear c34b0
                  try clear c34b1
                  try clear c35
                  try clear c35b0
                  try clear c36
                  try clear c36b0
                  try clear c37
                  try clear c37b0
                  try clear p38
                  try clear q38
                  try clear hx38
                  try clear c39
                  try clear c39b0
                  try clear c39b1
                  try clear c40
                  try clear c40b0
                  try clear c41
                  try clear c41b0
                  try clear p1
                  try clear p10
                  try clear p13
                  try clear p16
                  try clear p18
                  try clear p2
                  try clear p24
                  try clear p3
                  try clear p30
                  try clear p38
                  try clear p5
                  try clear p6
                  try clear q1
                  try clear q10
                  try clear q13
                  try clear q16
                  try clear q18
                  try clear q2
                  try clear q24
                  try clear q3
                  try clear q30
                  try clear q38
                  try clear q5
                  obtain ⟨kq, x98_32, rfl, HA, HJ32, ⟨mc32, rfl⟩⟩ := hcut
                  cases kq with
                  | zero => exact absurd HA.out (by simp [ashlarref15_word.j4])
                  | succ kj32 =>
                    have H := HA.out
                    clear HA
                    simp only [ashlarref15_word.j4] at H
                    by_cases c44 : x98_32 = true
                    · subst c44
                      have H1 : (some a1) = some r := by rw [if_pos rfl] at H; exact H
                      clear H
                      have H := H1
                      clear H1
                      obtain rfl := Option.some.inj H
                      go_wp2
                      go_ret
                      exact ⟨by first | rfl | (simp; done) | (simp [*]; done), by repeat (first | exact Drawn0.refl _ | apply Drawn0.step)⟩
                    · replace c44 := Bool.eq_false_iff.mpr c44
                      subst c44
                      have H1 : (if x5_24 > a1 then (if (wrap64 (x5_26 - x5_24)) = 19 then (if 0 ≤ x5_24 then (if x5_24 ≤ x5_26 then (if x5_26 ≤ (a0.size : Int) then (if (Op.bytesLess ([57, 50, 50, 51, 51, 55, 50, 48, 51, 54, 56, 53, 52, 55, 55, 53, 56, 48, 56] : List UInt8) ((a0.extract (x5_24 : Int).toNat (x5_26 : Int).toNat).toList)) = true then (some a1) else (some x5_26)) else (none)) else (none)) else (none)) else (some x5_26)) else (if (wrap64 (x5_26 - x5_24)) = 19 then (if 0 ≤ x5_24 then (if x5_24 ≤ x5_26 then (if x5_26 ≤ (a0.size : Int) then (if (Op.bytesLess ([57, 50, 50, 51, 51, 55, 50, 48, 51, 54, 56, 53, 52, 55, 55, 53, 56, 48, 55] : List UInt8) ((a0.extract (x5_24 : Int).toNat (x5_26 : Int).toNat).toList)) = true then (some a1) else (some x5_26)) else (none)) else (none)) else (none)) else (some x5_26))) = some r := by rw [if_neg (show ¬ (false = true) by decide)] at H; exact H
                      clear H
                      have H := H1
                      clear H1
                      by_cases c45 : x5_24 > a1
                      · rw [if_pos c45] at H
                        have c45b0 : decide (a1 < x5_24) = true := decide_eq_true c45
                        clear c45
                        by_cases c46 : (wrap64 (x5_26 - x5_24)) = 19
                        · rw [if_pos c46] at H
                          have c46b0 : ((wrap64 (x5_26 - x5_24)) == 19) = true := beq_iff_eq.mpr c46
                          have c46b1 : ((wrap64 (x5_26 - x5_24)) != 19) = false := bne_eq_false_iff_eq.mpr c46
                          clear c46
                          by_cases c47 : 0 ≤ x5_24
                          · rw [if_pos c47] at H
                            have c47b0 := eq_true c47
                            have c47b1 : decide (0 ≤ x5_24) = true := decide_eq_true c47
                            clear c47
                            by_cases c48 : x5_24 ≤ x5_26
                            · rw [if_pos c48] at H
                              have c48b0 := eq_true c48
                              have c48b1 : decide (x5_24 ≤ x5_26) = true := decide_eq_true c48
                              clear c48
                              by_cases c49 : x5_26 ≤ (a0.size : Int)
                              · rw [if_pos c49] at H
                                have c49b0 := eq_true c49
                                have c49b1 : decide (x5_26 ≤ (a0.size : Int)) = true := decide_eq_true c49
                                clear c49
                                by_cases c50 : (Op.bytesLess ([57, 50, 50, 51, 51, 55, 50, 48, 51, 54, 56, 53, 52, 55, 55, 53, 56, 48, 56] : List UInt8) ((a0.extract (x5_24 : Int).toNat (x5_26 : Int).toNat).toList)) = true
                                · rw [if_pos c50] at H
                                  have c50b0 : (Op.bytesLess ([57, 50, 50, 51, 51, 55, 50, 48, 51, 54, 56, 53, 52, 55, 55, 53, 56, 48, 56] : List UInt8) ((a0.extract (x5_24 : Int).toNat (x5_26 : Int).toNat).toList)) = true := c50
                                  clear c50
                                  obtain rfl := Option.some.inj H
                                  go_wp2
                                  go_ret
                                  exact ⟨by first | rfl | (simp; done) | (simp [*]; done), by repeat (first | exact Drawn0.refl _ | apply Drawn0.step)⟩
                                · rw [if_neg c50] at H
                                  have c50b0 : (Op.bytesLess ([57, 50, 50, 51, 51, 55, 50, 48, 51, 54, 56, 53, 52, 55, 55, 53, 56, 48, 56] : List UInt8) ((a0.extract (x5_24 : Int).toNat (x5_26 : Int).toNat).toList)) = false := by simpa using c50
                                  clear c50
                                  obtain rfl := Option.some.inj H
                                  go_wp2
                                  go_ret
                                  exact ⟨by first | rfl | (simp; done) | (simp [*]; done), by repeat (first | exact Drawn0.refl _ | apply Drawn0.step)⟩
                              · rw [if_neg c49] at H
                                exact absurd H (by simp)
                            · rw [if_neg c48] at H
                              exact absurd H (by simp)
                          · rw [if_neg c47] at H
                            exact absurd H (by simp)
                        · rw [if_neg c46] at H
                          have c46b0 : ((wrap64 (x5_26 - x5_24)) == 19) = false := beq_eq_false_iff_ne.mpr c46
                          have c46b1 : ((wrap64 (x5_26 - x5_24)) != 19) = true := bne_iff_ne.mpr c46
                          obtain rfl := Option.some.inj H
                          go_wp2
                          go_ret
                          exact ⟨by first | rfl | (simp; done) | (simp [*]; done), by repeat (first | exact Drawn0.refl _ | apply Drawn0.step)⟩
                      · rw [if_neg c45] at H
                        have c45b0 : decide (a1 < x5_24) = false := decide_eq_false c45
                        clear c45
                        by_cases c51 : (wrap64 (x5_26 - x5_24)) = 19
                        · rw [if_pos c51] at H
                          have c51b0 : ((wrap64 (x5_26 - x5_24)) == 19) = true := beq_iff_eq.mpr c51
                          have c51b1 : ((wrap64 (x5_26 - x5_24)) != 19) = false := bne_eq_false_iff_eq.mpr c51
                          clear c51
                          by_cases c52 : 0 ≤ x5_24
                          · rw [if_pos c52] at H
                            have c52b0 := eq_true c52
                            have c52b1 : decide (0 ≤ x5_24) = true := decide_eq_true c52
                            clear c52
                            by_cases c53 : x5_24 ≤ x5_26
                            · rw [if_pos c53] at H
                              have c53b0 := eq_true c53
                              have c53b1 : decide (x5_24 ≤ x5_26) = true := decide_eq_true c53
                              clear c53
                              by_cases c54 : x5_26 ≤ (a0.size : Int)
                              · rw [if_pos c54] at H
                                have c54b0 := eq_true c54
                                have c54b1 : decide (x5_26 ≤ (a0.size : Int)) = true := decide_eq_true c54
                                clear c54
                                by_cases c55 : (Op.bytesLess ([57, 50, 50, 51, 51, 55, 50, 48, 51, 54, 56, 53, 52, 55, 55, 53, 56, 48, 55] : List UInt8) ((a0.extract (x5_24 : Int).toNat (x5_26 : Int).toNat).toList)) = true
                                · rw [if_pos c55] at H
                                  have c55b0 : (Op.bytesLess ([57, 50, 50, 51, 51, 55, 50, 48, 51, 54, 56, 53, 52, 55, 55, 53, 56, 48, 55] : List UInt8) ((a0.extract (x5_24 : Int).toNat (x5_26 : Int).toNat).toList)) = true := c55
                                  clear c55
                                  obtain rfl := Option.some.inj H
                                  go_wp2
                                  go_ret
                                  exact ⟨by first | rfl | (simp; done) | (simp [*]; done), by repeat (first | exact Drawn0.refl _ | apply Drawn0.step)⟩
                                · rw [if_neg c55] at H
                                  have c55b0 : (Op.bytesLess ([57, 50, 50, 51, 51, 55, 50, 48, 51, 54, 56, 53, 52, 55, 55, 53, 56, 48, 55] : List UInt8) ((a0.extract (x5_24 : Int).toNat (x5_26 : Int).toNat).toList)) = false := by simpa using c55
                                  clear c55
                                  obtain rfl := Option.some.inj H
                                  go_wp2
                                  go_ret
                                  exact ⟨by first | rfl | (simp; done) | (simp [*]; done), by repeat (first | exact Drawn0.refl _ | apply Drawn0.step)⟩
                              · rw [if_neg c54] at H
                                exact absurd H (by simp)
                            · rw [if_neg c53] at H
                              exact absurd H (by simp)
                          · rw [if_neg c52] at H
                            exact absurd H (by simp)
                        · rw [if_neg c51] at H
                          have c51b0 : ((wrap64 (x5_26 - x5_24)) == 19) = false := beq_eq_false_iff_ne.mpr c51
                          have c51b1 : ((wrap64 (x5_26 - x5_24)) != 19) = true := bne_iff_ne.mpr c51
                          obtain rfl := Option.some.inj H
                          go_wp2
                          go_ret
                          exact ⟨by first | rfl | (simp; done) | (simp [*]; done), by repeat (first | exact Drawn0.refl _ | apply Drawn0.step)⟩
    · rw [if_neg c4] at H
      exact absurd H (by simp)
  · rw [if_neg c3] at H
    exact absurd H (by simp)

end Go.Proofs.YtnegkabafigfnaaDoor.PLexTells
