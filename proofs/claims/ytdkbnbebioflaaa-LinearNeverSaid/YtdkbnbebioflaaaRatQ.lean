/- Plain: what num reckons, as rational numbers. -/
import Derived.Test.YtdkbnbebioflaaaNumOverLaw
namespace Go.Proofs.Ytdkbnbebioflaaa.Lin
open Go.RowKit Go.Proofs.Ytdkbnbebioflaaa.Given Go.Proofs.Ytdkbnbebioflaaa.Num
set_option linter.unusedVariables false
set_option linter.unusedSimpArgs false

/-- It has room. -/
def Fit (x : Rat) : Prop := In64 x.num ∧ (x.den : Int) < 9223372036854775808
instance (x : Rat) : Decidable (Fit x) := by unfold Fit In64; infer_instance
/-- A rational number as num tells it. -/
def mkQ (x : Rat) : Int × Int × Bool := if Fit x then (x.num, (x.den : Int), true) else (0, 0, false)

theorem den_pos (x : Rat) : (0 : Int) < (x.den : Int) := by have := x.den_pos; omega
theorem low_q (x : Rat) : Low x.num (x.den : Int) := ⟨den_pos x, by have := x.reduced; unfold Int.gcd; rw [Int.natAbs_natCast]; exact this⟩
theorem num_eq (x : Rat) : x * ((x.den : Int) : Rat) = ((x.num : Int) : Rat) := by
  have hd : ((x.den : Int) : Rat) ≠ 0 := by
    intro e
    have := Rat.intCast_inj.1 (e.trans (show (0 : Rat) = ((0 : Int) : Rat) from rfl))
    have := den_pos x; omega
  have hx : x = ((x.num : Int) : Rat) / ((x.den : Int) : Rat) := by
    rw [← Rat.divInt_eq_div]; exact (Rat.num_divInt_den x).symm
  generalize ((x.den : Int) : Rat) = d at *
  generalize ((x.num : Int) : Rat) = n at *
  rw [hx]; grind
theorem cast_ne {q : Int} (h : q ≠ 0) : (q : Rat) ≠ 0 := fun e => h (Rat.intCast_inj.1 (e.trans (show (0 : Rat) = ((0 : Int) : Rat) from rfl)))
theorem low_is {p q : Int} (hq : q ≠ 0) {x : Rat} (hx : x * (q : Rat) = (p : Rat)) : lowP p q = x.num ∧ lowQ p q = (x.den : Int) := by
  refine low_eq hq (low_q x) ?_
  apply Rat.intCast_inj.1
  rw [Rat.intCast_mul, Rat.intCast_mul, ← num_eq x, ← hx]
  grind
theorem mk_q {p q : Int} (hq : q ≠ 0) {x : Rat} (hx : x * (q : Rat) = (p : Rat)) : mk p q = mkQ x := by
  obtain ⟨e1, e2⟩ := low_is hq hx
  unfold mk mkQ
  rw [if_neg hq, e1, e2]
  have hd := den_pos x
  by_cases hf : Fit x
  · rw [if_pos hf, if_pos ⟨hf.1, by unfold In64; have := hf.2; omega⟩]
  · rw [if_neg hf, if_neg (fun h => hf ⟨h.1, h.2.2⟩)]
/-- A right rat is one. -/
theorem right_q {P Q : Int} (h : Low P Q) : ∃ x : Rat, x.num = P ∧ (x.den : Int) = Q := by
  have hq : Q ≠ 0 := by have := h.pos; omega
  have hr := cast_ne hq
  refine ⟨(P : Rat) / (Q : Rat), ?_⟩
  have hx : ((P : Rat) / (Q : Rat)) * (Q : Rat) = (P : Rat) := by grind
  obtain ⟨e1, e2⟩ := low_is hq hx
  obtain ⟨f1, f2⟩ := low_eq hq h rfl
  exact ⟨e1.symm.trans f1, e2.symm.trans f2⟩
theorem ne_den (x : Rat) : (x.den : Int) ≠ 0 := by have := den_pos x; omega
theorem mul_ne {a b : Int} (ha : a ≠ 0) (hb : b ≠ 0) : a * b ≠ 0 := Int.mul_ne_zero ha hb
theorem plus_q (x y : Rat) : sumR x.num x.den y.num y.den false = mkQ (x + y) := by
  rw [sumR_mk false (low_q x) (low_q y)]
  refine mk_q (mul_ne (ne_den x) (ne_den y)) ?_
  unfold top
  rw [if_neg (by decide), Rat.intCast_add, Rat.intCast_mul, Rat.intCast_mul, Rat.intCast_mul, ← num_eq x, ← num_eq y]
  grind
theorem minus_q (x y : Rat) : sumR x.num x.den y.num y.den true = mkQ (x - y) := by
  rw [sumR_mk true (low_q x) (low_q y)]
  refine mk_q (mul_ne (ne_den x) (ne_den y)) ?_
  unfold top
  rw [if_pos rfl, Rat.intCast_sub, Rat.intCast_mul, Rat.intCast_mul, Rat.intCast_mul, ← num_eq x, ← num_eq y]
  grind
theorem times_q (x y : Rat) : timesR x.num x.den y.num y.den = mkQ (x * y) := by
  rw [timesR_mk (low_q x) (low_q y)]
  refine mk_q (mul_ne (ne_den x) (ne_den y)) ?_
  rw [Rat.intCast_mul, Rat.intCast_mul, ← num_eq x, ← num_eq y]
  grind
theorem num_ne {y : Rat} (hy : y ≠ 0) : y.num ≠ 0 := fun e => hy (Rat.num_eq_zero.1 e)
theorem over_q (x y : Rat) (hy : y ≠ 0) : overR x.num x.den y.num y.den = mkQ (x / y) := by
  rw [overR_mk (low_q x) (low_q y)]
  refine mk_q (mul_ne (ne_den x) (num_ne hy)) ?_
  rw [Rat.intCast_mul, Rat.intCast_mul, ← num_eq x, ← num_eq y]
  grind
/-- Order. -/
theorem cmp_q (x y : Rat) : cmpI (x.num * y.den - y.num * x.den) = if x < y then -1 else if x = y then 0 else 1 := by
  have hx := den_pos x
  have hy := den_pos y
  have e : ((x.num * y.den - y.num * x.den : Int) : Rat) = (x - y) * ((x.den : Int) : Rat) * ((y.den : Int) : Rat) := by
    rw [Rat.intCast_sub, Rat.intCast_mul, Rat.intCast_mul, ← num_eq x, ← num_eq y]; grind
  have dx : (0 : Rat) < ((x.den : Int) : Rat) := by have := Rat.intCast_lt_intCast.2 hx; exact this
  have dy : (0 : Rat) < ((y.den : Int) : Rat) := by have := Rat.intCast_lt_intCast.2 hy; exact this
  have dd := Rat.mul_pos dx dy
  generalize x.num * y.den - y.num * x.den = z at *
  unfold cmpI
  by_cases h : x < y
  · have hz : (z : Rat) < ((0 : Int) : Rat) := by
      have := Rat.mul_pos (a := y - x) (b := ((x.den : Int) : Rat) * ((y.den : Int) : Rat)) (by grind) dd
      rw [e]; show _ < (0 : Rat); grind
    rw [if_pos h, if_pos (Rat.intCast_lt_intCast.1 hz)]
  · rw [if_neg h]
    by_cases h2 : x = y
    · have hz : z = 0 := by
        apply Rat.intCast_inj.1
        rw [e, h2]; show _ = (0 : Rat); grind
      rw [if_pos h2, hz]; rfl
    · have hz : ((0 : Int) : Rat) < (z : Rat) := by
        have := Rat.mul_pos (a := x - y) (b := ((x.den : Int) : Rat) * ((y.den : Int) : Rat)) (by grind) dd
        rw [e]; show (0 : Rat) < _; grind
      have hz' := Rat.intCast_lt_intCast.1 hz
      rw [if_neg h2, if_neg (by omega), if_neg (by omega)]
end Go.Proofs.Ytdkbnbebioflaaa.Lin
