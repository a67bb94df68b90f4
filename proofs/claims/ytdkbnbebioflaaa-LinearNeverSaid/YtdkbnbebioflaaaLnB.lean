/- num's reckoning at rational numbers, as linear meets it; sign, right. -/
import Derived.Test.YtdkbnbebioflaaaNumD
import Derived.Test.YtdkbnbebioflaaaNumS
import Derived.Test.YtdkbnbebioflaaaSimD
namespace Go.Proofs
theorem Z170 {p : Prop} (h : p := by first | exact Nat.le_refl _ | (simp; done) | (simp; omega) | omega) : p := h
end Go.Proofs
namespace Go.Proofs.Ytdkbnbebioflaaa.Ln
open Go.RowKit Go.Proofs.Ytdkbnbebioflaaa.Num Go.Proofs.Ytdkbnbebioflaaa.Given Go.Proofs.Ytdkbnbebioflaaa.Lin
set_option linter.unusedVariables false
set_option linter.unusedSimpArgs false

/-- A rational number in memory. -/
@[reducible, go_sem] def rv (x : Rat) : Value := .agg #[.int .i64 x.num, .int .i64 x.den]
theorem fit64 {x : Rat} (h : Fit x) : In64 x.num ∧ In64 (x.den : Int) := ⟨h.1, by have := h.2; unfold In64; omega⟩
theorem mkQ_ok {x : Rat} (h : Fit x) : mkQ x = (x.num, (x.den : Int), true) := if_pos h
theorem mkQ_no {x : Rat} (h : ¬ Fit x) : mkQ x = (0, 0, false) := if_neg h
theorem int_fit {n : Int} (h : In64 n) : Fit (n : Rat) := ⟨by rw [Rat.num_intCast]; exact h, by rw [Rat.den_intCast]; decide⟩
theorem rv_int (n : Int) : rv (n : Rat) = .agg #[.int .i64 n, .int .i64 1] := by unfold rv; rw [Rat.num_intCast, Rat.den_intCast]; rfl

theorem plus_ok {x y : Rat} (hx : Fit x) (hy : Fit y) (h : Fit (x + y)) (w : World) :
    Calls Try.prog 45 #[rv x, rv y] w fun e w' => e = .returned (.tuple #[rv (x + y), .bool true]) ∧ Below w.heap.size w w' :=
  num_Rat_Plus.calls _ _ _ _ _ _ _ w (by unfold num_Rat_Plus.f; rw [if_pos ⟨(fit64 hx).1, (fit64 hx).2, (fit64 hy).1, (fit64 hy).2⟩, plus_q, mkQ_ok h])
theorem plus_no {x y : Rat} (hx : Fit x) (hy : Fit y) (h : ¬ Fit (x + y)) (w : World) :
    Calls Try.prog 45 #[rv x, rv y] w fun e w' => e = .returned (.tuple #[.agg #[.int .i64 0, .int .i64 0], .bool false]) ∧ Below w.heap.size w w' :=
  num_Rat_Plus.calls _ _ _ _ _ _ _ w (by unfold num_Rat_Plus.f; rw [if_pos ⟨(fit64 hx).1, (fit64 hx).2, (fit64 hy).1, (fit64 hy).2⟩, plus_q, mkQ_no h])
theorem minus_ok {x y : Rat} (hx : Fit x) (hy : Fit y) (h : Fit (x - y)) (w : World) :
    Calls Try.prog 57 #[rv x, rv y] w fun e w' => e = .returned (.tuple #[rv (x - y), .bool true]) ∧ Below w.heap.size w w' :=
  num_Rat_Minus.calls _ _ _ _ _ _ _ w (by unfold num_Rat_Minus.f; rw [if_pos ⟨(fit64 hx).1, (fit64 hx).2, (fit64 hy).1, (fit64 hy).2⟩, minus_q, mkQ_ok h])
theorem minus_no {x y : Rat} (hx : Fit x) (hy : Fit y) (h : ¬ Fit (x - y)) (w : World) :
    Calls Try.prog 57 #[rv x, rv y] w fun e w' => e = .returned (.tuple #[.agg #[.int .i64 0, .int .i64 0], .bool false]) ∧ Below w.heap.size w w' :=
  num_Rat_Minus.calls _ _ _ _ _ _ _ w (by unfold num_Rat_Minus.f; rw [if_pos ⟨(fit64 hx).1, (fit64 hx).2, (fit64 hy).1, (fit64 hy).2⟩, minus_q, mkQ_no h])
theorem times_ok {x y : Rat} (hx : Fit x) (hy : Fit y) (h : Fit (x * y)) (w : World) :
    Calls Try.prog 46 #[rv x, rv y] w fun e w' => e = .returned (.tuple #[rv (x * y), .bool true]) ∧ Below w.heap.size w w' :=
  num_Rat_Times.calls _ _ _ _ _ _ _ w (by unfold num_Rat_Times.f; rw [if_pos ⟨(fit64 hx).1, (fit64 hx).2, (fit64 hy).1, (fit64 hy).2⟩, times_q, mkQ_ok h])
theorem times_no {x y : Rat} (hx : Fit x) (hy : Fit y) (h : ¬ Fit (x * y)) (w : World) :
    Calls Try.prog 46 #[rv x, rv y] w fun e w' => e = .returned (.tuple #[.agg #[.int .i64 0, .int .i64 0], .bool false]) ∧ Below w.heap.size w w' :=
  num_Rat_Times.calls _ _ _ _ _ _ _ w (by unfold num_Rat_Times.f; rw [if_pos ⟨(fit64 hx).1, (fit64 hx).2, (fit64 hy).1, (fit64 hy).2⟩, times_q, mkQ_no h])
theorem over_ok {x y : Rat} (hx : Fit x) (hy : Fit y) (h0 : y ≠ 0) (h : Fit (x / y)) (w : World) :
    Calls Try.prog 60 #[rv x, rv y] w fun e w' => e = .returned (.tuple #[rv (x / y), .bool true]) ∧ Below w.heap.size w w' :=
  num_Rat_Over.calls _ _ _ _ _ _ _ w (by unfold num_Rat_Over.f; rw [if_pos ⟨(fit64 hx).1, (fit64 hx).2, (fit64 hy).1, (fit64 hy).2⟩, over_q _ _ h0, mkQ_ok h])
theorem over_no {x y : Rat} (hx : Fit x) (hy : Fit y) (h0 : y ≠ 0) (h : ¬ Fit (x / y)) (w : World) :
    Calls Try.prog 60 #[rv x, rv y] w fun e w' => e = .returned (.tuple #[.agg #[.int .i64 0, .int .i64 0], .bool false]) ∧ Below w.heap.size w w' :=
  num_Rat_Over.calls _ _ _ _ _ _ _ w (by unfold num_Rat_Over.f; rw [if_pos ⟨(fit64 hx).1, (fit64 hx).2, (fit64 hy).1, (fit64 hy).2⟩, over_q _ _ h0, mkQ_no h])
/-- Cmp. -/
def cmpQ (x y : Rat) : Int := if x < y then -1 else if x = y then 0 else 1
theorem cmp_is {x y : Rat} (hx : Fit x) (hy : Fit y) (w : World) :
    Calls Try.prog 56 #[rv x, rv y] w fun e w' => e = .returned (.int .i64 (cmpQ x y)) ∧ Below w.heap.size w w' :=
  num_Rat_Cmp.calls _ _ _ _ _ w (by unfold num_Rat_Cmp.f; rw [if_pos ⟨(fit64 hx).1, (fit64 hx).2, (fit64 hy).1, (fit64 hy).2⟩, cmp_q]; rfl)

/-- cmp.Compare with 0. -/
def sg0 (a : Int) : Int := if a < 0 then -1 else if 0 < a then 1 else 0
theorem isNaN_any (a : Int) (w : World) : Calls Try.prog 79 #[.int .i64 a] w fun e w' => e = .returned (.bool false) ∧ w' = w := by
  go_enter Try.func79, Try.ntmps79
  go_wp2
  go_ret
  simp [go_sem]
theorem compare_any (a : Int) (w : World) : Calls Try.prog 68 #[.int .i64 a, .int .i64 0] w fun e w' => e = .returned (.int .i64 (sg0 a)) ∧ w' = w := by
  have hn := isNaN_any
  have HN := Lib.hid hn
  clear hn
  unfold sg0
  by_cases h1 : a < 0
  · have e1 : decide (a < 0) = true := decide_eq_true h1
    rw [if_pos h1]
    clear h1
    go_enter Try.func68, Try.ntmps68
    go_wp2_with fail
    refine (HN.out _ _).mono ?_
    rintro e w1 ⟨rfl, rfl⟩
    go_wp2_with fail
    refine (HN.out _ _).mono ?_
    rintro e w1 ⟨rfl, rfl⟩
    go_wp2
    go_ret
    exact ⟨rfl, rfl⟩
  · have e1 : decide (a < 0) = false := decide_eq_false h1
    rw [if_neg h1]
    clear h1
    by_cases h2 : 0 < a
    · have e2 : decide (0 < a) = true := decide_eq_true h2
      rw [if_pos h2]
      clear h2
      go_enter Try.func68, Try.ntmps68
      go_wp2_with fail
      refine (HN.out _ _).mono ?_
      rintro e w1 ⟨rfl, rfl⟩
      go_wp2_with fail
      refine (HN.out _ _).mono ?_
      rintro e w1 ⟨rfl, rfl⟩
      go_wp2
      go_ret
      exact ⟨rfl, rfl⟩
    · have e2 : decide (0 < a) = false := decide_eq_false h2
      rw [if_neg h2]
      clear h2
      go_enter Try.func68, Try.ntmps68
      go_wp2_with fail
      refine (HN.out _ _).mono ?_
      rintro e w1 ⟨rfl, rfl⟩
      go_wp2_with fail
      refine (HN.out _ _).mono ?_
      rintro e w1 ⟨rfl, rfl⟩
      go_wp2
      go_ret
      exact ⟨rfl, rfl⟩
theorem sign_any (p q : Int) (w : World) : Calls Try.prog 47 #[.agg #[.int .i64 p, .int .i64 q]] w fun e w' => e = .returned (.int .i64 (sg0 p)) ∧ Below w.heap.size w w' := by
  have HN := Lib.hid compare_any
  go_enter Try.func47, Try.ntmps47
  go_wp2_with fail
  refine (HN.out _ _).mono ?_
  rintro e w1 ⟨rfl, rfl⟩
  go_wp2
  go_ret
  exact ⟨rfl, (by repeat (first | exact Below.refl _ _ | with_reducible assumption | refine Below.alloc ?_ Z170 _ | refine Below.setCell ?_ Z170 _ | refine Below.drew ?_ | refine bdrewN ?_ _))⟩

/-- A rat that is right: lowest, and above 0 below. -/
def rightPQ (p q : Int) : Bool := (mk p q).2.2 && (p == (mk p q).1 && q == (mk p q).2.1)
theorem right_any (p q : Int) (w : World) (hp : In64 p) (hq : In64 q) : Calls Try.prog 19 #[.agg #[.int .i64 p, .int .i64 q]] w fun e w' => e = .returned (.bool (rightPQ p q)) ∧ Below w.heap.size w w' := by
  have HM := Lib.hid (fun W => Make_any p q W hp hq)
  clear hp hq
  unfold rightPQ
  obtain ⟨⟨x, y, b⟩, hm⟩ : ∃ r, mk p q = r := ⟨_, rfl⟩
  rw [hm] at HM ⊢
  clear hm
  cases b with
  | true =>
    go_enter Try.func19, Try.ntmps19
    go_wp2_with fail
    refine (HM.out _).mono ?_
    rintro e w1 ⟨rfl, hb1⟩
    obtain ⟨hc, hf⟩ := bcell hb1
    have hz := hb1.size
    have c1 : w1.cell? ⟨w.heap.size, 0, none⟩ = some (.int .i64 p) := by rw [hc _ _ Z170]; simp [go_sem]
    have c2 : w1.cell? ⟨w.heap.size, 1, none⟩ = some (.int .i64 q) := by rw [hc _ _ Z170]; simp [go_sem]
    have f1 : w1.frozen? ⟨w.heap.size, 0, none⟩ = false := by rw [hf _ _ Z170]; simp [go_sem]
    have f2 : w1.frozen? ⟨w.heap.size, 1, none⟩ = false := by rw [hf _ _ Z170]; simp [go_sem]
    have hb2 : Below w.heap.size w w1 := ((Below.refl _ _).alloc (Nat.le_refl _) _).trans (hb1.mono (by simp))
    simp at hz
    have hlt : w.heap.size < w1.heap.size := by omega
    have hne : w.heap.size ≠ w1.heap.size := by omega
    have hb3 := Lib.hid hb2
    clear hc hf hb1 hb2
    go_wp2
    all_goals (go_ret; exact ⟨by simp [*], hb3.out.alloc (by omega) _⟩)
  | false =>
    go_enter Try.func19, Try.ntmps19
    go_wp2_with fail
    refine (HM.out _).mono ?_
    rintro e w1 ⟨rfl, hb1⟩
    have hz := hb1.size
    have hb2 : Below w.heap.size w w1 := ((Below.refl _ _).alloc (Nat.le_refl _) _).trans (hb1.mono (by simp))
    simp at hz
    have hb3 := Lib.hid hb2
    clear hb1 hb2
    go_wp2
    go_ret
    exact ⟨by simp, hb3.out.alloc (by omega) _⟩

end Go.Proofs.Ytdkbnbebioflaaa.Ln
