import Derived.Test.YtbpjnkeilhfajaaGreatNumE
import Derived.RowKit
import Derived.Test.YtbpjnkeilhfajaaGreatRefA
import Derived.Test.YtbpjnkeilhfajaaGreatWMore
section
/- Plain law: what the right rat of two numbers is. -/
namespace Go.Proofs.YtbpjnkeilhfajaaGreat.Num
set_option linter.unusedVariables false
set_option linter.unusedSimpArgs false
open Go.RowKit
structure Low (P Q : Int) : Prop where
 pos : 0 < Q
 co : Int.gcd P Q = 1
theorem dvd_of_co {a b c : Int} (h : Int.gcd a b = 1) (hd : a ∣ b * c) : a ∣ c := by
 rw [← Int.natAbs_dvd_natAbs] at hd ⊢
 rw [Int.natAbs_mul] at hd
 exact Nat.Coprime.dvd_of_dvd_mul_left h hd
theorem eq_of_dvd {a b : Int} (ha : 0 < a) (hb : 0 < b) (h1 : a ∣ b) (h2 : b ∣ a) : a = b := by
 have := Int.le_of_dvd hb h1
 have := Int.le_of_dvd ha h2
 omega
theorem Low.uniq {P Q P' Q' : Int} (h : Low P Q) (h' : Low P' Q') (e : P * Q' = P' * Q) : P = P' ∧ Q = Q' := by
 have d1 : Q ∣ Q' := by
  refine dvd_of_co (b := P) (by rw [Int.gcd_comm]; exact h.co) ?_
  exact ⟨P', by rw [e, Int.mul_comm]⟩
 have d2 : Q' ∣ Q := by
  refine dvd_of_co (b := P') (by rw [Int.gcd_comm]; exact h'.co) ?_
  exact ⟨P, by rw [← e, Int.mul_comm]⟩
 have hQ := eq_of_dvd h.pos h'.pos d1 d2
 subst hQ
 exact ⟨Int.eq_of_mul_eq_mul_right (by have := h.pos; omega) e, rfl⟩
theorem sz_abs (a : Int) : sz a = (a.natAbs : Int) := by unfold sz; split <;> omega
theorem low_low {p q : Int} (hq : q ≠ 0) : Low (lowP p q) (lowQ p q) := by
 have g0 := gcd_pos (p := p) hq
 have d1 := Int.gcd_dvd_left p q
 have d2 := Int.gcd_dvd_right p q
 have e1 : (Int.gcd p q : Int) ∣ sz p := by rw [sz_abs]; exact Int.dvd_natAbs.2 d1
 have e2 : (Int.gcd p q : Int) ∣ sz q := by rw [sz_abs]; exact Int.dvd_natAbs.2 d2
 constructor
 ·unfold lowQ
  have : 0 < sz q := by unfold sz; split <;> omega
  exact Int.ediv_pos_of_pos_of_dvd this (Int.le_of_lt g0) e2
 ·have hz : sz q ≠ 0 := by unfold sz; split <;> omega
  have k := Int.gcd_ediv_gcd_ediv_gcd_of_ne_zero_right (n := sz p) hz
  rw [gcd_sz] at k
  unfold lowP lowQ
  split
  ·rw [Int.neg_gcd]; exact k
  ·exact k
theorem low_val {p q : Int} (hq : q ≠ 0) : lowP p q * q = p * lowQ p q := by
 have g0 := gcd_pos (p := p) hq
 have e1 : (Int.gcd p q : Int) ∣ sz p := by rw [sz_abs]; exact Int.dvd_natAbs.2 (Int.gcd_dvd_left p q)
 have e2 : (Int.gcd p q : Int) ∣ sz q := by rw [sz_abs]; exact Int.dvd_natAbs.2 (Int.gcd_dvd_right p q)
 unfold lowP lowQ
 obtain ⟨a, ha⟩ := e1
 obtain ⟨b, hb⟩ := e2
 rw [ha, hb, Int.mul_ediv_cancel_left _ (by omega), Int.mul_ediv_cancel_left _ (by omega)]
 generalize (Int.gcd p q : Int) = g at *
 unfold sz at ha hb
 unfold sg
 by_cases h1 : p < 0 <;> by_cases h2 : q < 0 <;> simp [h1, h2] at ha hb ⊢
 ·have : p = -(g * a) := by omega
  have : q = -(g * b) := by omega
  subst p q; grind
 ·have : p = -(g * a) := by omega
  subst p; rw [hb]; grind
 ·have : q = -(g * b) := by omega
  subst q; rw [ha]; grind
 ·rw [ha, hb]; grind
theorem low_eq {p q P Q : Int} (hq : q ≠ 0) (h : Low P Q) (e : P * q = p * Q) : lowP p q = P ∧ lowQ p q = Q := by
 refine Low.uniq (low_low hq) h ?_
 have e1 := low_val (p := p) hq
 have : lowP p q * Q * q = P * lowQ p q * q := by
  have a1 : lowP p q * Q * q = lowP p q * q * Q := by grind
  have a2 : P * lowQ p q * q = P * q * lowQ p q := by grind
  rw [a1, a2, e1, e]; grind
 exact Int.eq_of_mul_eq_mul_right hq this
theorem mk_cases (p q : Int) : ((mk p q).2.2 = false ∧ mk p q = (0, 0, false)) ∨ (∃ P Q, mk p q = (P, Q, true) ∧ q ≠ 0 ∧ P = lowP p q ∧ Q = lowQ p q ∧ In64 P ∧ In64 Q ∧ Low P Q ∧ P * q = p * Q) := by
 unfold mk
 by_cases h0 : q = 0
 ·rw [if_pos h0]; exact .inl ⟨rfl, rfl⟩
 ·rw [if_neg h0]
  by_cases h1 : In64 (lowP p q) ∧ In64 (lowQ p q)
  ·rw [if_pos h1]; exact .inr ⟨_, _, rfl, h0, rfl, rfl, h1.1, h1.2, low_low h0, low_val h0⟩
  ·rw [if_neg h1]; exact .inl ⟨rfl, rfl⟩
theorem Low.whole {P Q : Int} (h : Low P Q) : P % Q = 0 ↔ Q = 1 := by
 constructor
 ·intro hz
  have d := Int.dvd_of_emod_eq_zero hz
  have := h.co
  have e : Int.gcd P Q = Q.natAbs := Int.gcd_eq_natAbs_right d
  have := h.pos
  omega
 ·intro h1; rw [h1]; exact Int.emod_one P
def ceil (P Q : Int) : Int := if P % Q = 0 then P / Q else P / Q + 1
theorem in64_wf {a : Int} (h : (Lit.int .i64 a).wf = true) : In64 a := by
 simp only [Lit.wf, IntKind.min, IntKind.max, IntKind.signed, IntKind.bits, Bool.and_eq_true, decide_eq_true_eq, if_true] at h
 unfold In64; omega
theorem fitp_in (x : Int) : In64 (fitp x).1 := by
 unfold fitp; split
 ·assumption
 ·exact ⟨by omega, by omega⟩
end Go.Proofs.YtbpjnkeilhfajaaGreat.Num
end

section
/- ashlarref01.cut in the form in which a printed text meets a callee: its answer's row lies where its argument's does. -/
namespace Go.Proofs.YtbpjnkeilhfajaaGreat.Given
open Go.RowKit Go.Proofs.YtbpjnkeilhfajaaGreatW.PrintWords Go.Proofs.YtbpjnkeilhfajaaGreat.Ref
def ashlarref01_cut.f (d : Bool) (l : List Int) : Option (Bool × List Int) := if l.length ≤ 1000000 then some (d && decide (0 < (cutL l).length), cutL l) else none
theorem ashlarref01_cut.calls (a0_0 : Bool) (P0_1_ : Nat → Prop) (A0_1 : Option Addr) (c0_1 : Nat) (l0_1 : List Int) (r1 : Bool) (r2 : List Int) (w : World) (hs0_1 : Kd.V (Kd.int .i64) 3 w w.heap.size (fun k_ => P0_1_ k_) (.slice A0_1 l0_1.length c0_1) l0_1) (h : ashlarref01_cut.f a0_0 l0_1 = some (r1, r2)) :
  Calls Tryz.prog 108 #[.agg #[.bool a0_0, .slice A0_1 l0_1.length c0_1]] w fun e w' => ∃ v1_ : Value, e = .returned (.agg #[.bool r1, v1_]) ∧ Kd.V (Kd.int .i64) 3 w' w.heap.size (fun k_ => (P0_1_ k_ ∨ w.heap.size ≤ k_)) v1_ r2 ∧ Below w.heap.size w w' := by
 unfold ashlarref01_cut.f at h
 split at h
 ·rename_i hl
  obtain ⟨e1, e2⟩ := Prod.mk.inj (Option.some.inj h)
  subst e1 e2
  obtain ⟨-, h2, h3⟩ := Kd.V_reads' hs0_1
  refine (cut_any a0_0 A0_1 c0_1 l0_1 w h3 h2 hl).mono ?_
  rintro e' w' ⟨rfl, hb⟩
  refine ⟨_, by rw [cutL_len], ?_, hb⟩
  have hF := Kd.F_take (Kd.V_F hs0_1) (cutN_le l0_1 l0_1.length)
  have hV : Kd.V (Kd.int .i64) 3 w w.heap.size (fun k_ => P0_1_ k_) (.slice A0_1 (cutL l0_1).length c0_1) (cutL l0_1) := Kd.V_mk (by rw [cutL_len]; have := cutN_le l0_1 l0_1.length; omega) hF
  rw [cutL_len] at hV
  exact Kd.V_mono (Kd.V_below hV hb) (fun k hk => .inl hk)
 ·cases h
end Go.Proofs.YtbpjnkeilhfajaaGreat.Given
end

section
/- The document's functions on rows of digits (ashlarref01), as plain functions with rounds. -/
namespace Go.Proofs.YtbpjnkeilhfajaaGreat.PNumReckons
open Go.RowKit Go.Proofs.YtbpjnkeilhfajaaGreat.Given Go.Proofs.YtbpjnkeilhfajaaGreatW.PrintWords Go.Proofs.YtbpjnkeilhfajaaGreatW.PrintLast Go.Proofs.YtbpjnkeilhfajaaGreatW.PrintMore
set_option linter.unusedVariables false
def ashlarref01_Of.l0 : Nat → Int → Bool → List Int → Option (Bool × List Int)
 | 0, _, _, _ => none
 | k + 1, x0, x133_0, x133_1 => if x0 = 0 then (some (x133_0, x133_1)) else (if (Int.tmod x0 10) < 0 then (if x133_1.length < 17592186044416 then (ashlarref01_Of.l0 k (wrap64 (Int.tdiv x0 10)) x133_0 (x133_1 ++ [wrap64 (-(Int.tmod x0 10))])) else (none)) else (if x133_1.length < 17592186044416 then (ashlarref01_Of.l0 k (wrap64 (Int.tdiv x0 10)) x133_0 (x133_1 ++ [Int.tmod x0 10])) else (none)))
def ashlarref01_Of.f (k : Nat) (a0 : Int) : Option (Bool × List Int) := ashlarref01_Of.l0 k a0 (decide (a0 < 0)) ([] : List Int)
def ashlarref01_at.f (l0 : List Int) (a1 : Int) : Option (Int) := if a1 < (l0.length : Int) then (if 0 ≤ a1 then (some (rd l0 a1)) else (none)) else (some 0)
def ashlarref01_size.l0 : Nat → List Int → List Int → Int → Option (Int)
 | 0, _, _, _ => none
 | k + 1, x0, x1, x5 => if x5 ≥ 0 then ((ashlarref01_at.f x0 x5).bind fun t140 => ((ashlarref01_at.f x1 x5).bind fun t141 => (if t140 < t141 then (some (-1)) else (if t140 > t141 then (some 1) else (ashlarref01_size.l0 k x0 x1 (wrap64 (x5 - 1))))))) else (some 0)
def ashlarref01_size.f (k : Nat) (l0 : List Int) (l1 : List Int) : Option (Int) := ashlarref01_size.l0 k l0 l1 (wrap64 ((mx (l0.length : Int) (l1.length : Int)) - 1))
def ashlarref01_apart.l0 : Nat → List Int → List Int → List Int → Int → Int → Option (List Int)
 | 0, _, _, _, _, _ => none
 | k + 1, x0, x1, x5, x6, x7 => if x7 < (x0.length : Int) then (if 0 ≤ x7 then ((ashlarref01_at.f x1 x7).bind fun t146 => (if (wrap64 ((wrap64 ((rd x0 x7) - t146)) - x6)) < 0 then (if x5.length < 17592186044416 then (ashlarref01_apart.l0 k x0 x1 (x5 ++ [wrap64 ((wrap64 ((wrap64 ((rd x0 x7) - t146)) - x6)) + 10)]) 1 (wrap64 (x7 + 1))) else (none)) else (if x5.length < 17592186044416 then (ashlarref01_apart.l0 k x0 x1 (x5 ++ [wrap64 ((wrap64 ((rd x0 x7) - t146)) - x6)]) 0 (wrap64 (x7 + 1))) else (none)))) else (none)) else (some x5)
def ashlarref01_apart.f (k : Nat) (l0 : List Int) (l1 : List Int) : Option (List Int) := ashlarref01_apart.l0 k l0 l1 (([] : List Int)) 0 0
mutual
def ashlarref01_Times.l0 : Nat → List Int → Int → Bool → List Int → Bool → List Int → Option (Bool × List Int)
 | 0, _, _, _, _, _, _ => none
 | k + 1, x5, x6, x113_0, x113_1, x114_0, x114_1 => if x6 < (x113_1.length : Int) then (ashlarref01_Times.l1 k x5 x6 0 x113_0 x113_1 x114_0 x114_1) else ((ashlarref01_cut.f (x113_0 != x114_0) x5).bind fun bt118 => (some (bt118.1, bt118.2)))
def ashlarref01_Times.l1 : Nat → List Int → Int → Int → Bool → List Int → Bool → List Int → Option (Bool × List Int)
 | 0, _, _, _, _, _, _, _ => none
 | k + 1, x5, x6, x7, x113_0, x113_1, x114_0, x114_1 => if x7 < (x114_1.length : Int) then (if 0 ≤ (wrap64 (x6 + x7)) then (if (wrap64 (x6 + x7)) < (x5.length : Int) then (if 0 ≤ x6 then (if x6 < (x113_1.length : Int) then (if 0 ≤ x7 then (ashlarref01_Times.l1 k (x5.set ((wrap64 (x6 + x7)) : Int).toNat (wrap64 ((rd x5 (wrap64 (x6 + x7))) + (wrap64 ((rd x113_1 x6) * (rd x114_1 x7)))))) x6 (wrap64 (x7 + 1)) x113_0 x113_1 x114_0 x114_1) else (none)) else (none)) else (none)) else (none)) else (none)) else (ashlarref01_Times.l2 k x5 x6 0 x113_0 x113_1 x114_0 x114_1)
def ashlarref01_Times.l2 : Nat → List Int → Int → Int → Bool → List Int → Bool → List Int → Option (Bool × List Int)
 | 0, _, _, _, _, _, _, _ => none
 | k + 1, x5, x6, x8, x113_0, x113_1, x114_0, x114_1 => if (wrap64 (x8 + 1)) < (x5.length : Int) then (if 0 ≤ (wrap64 (x8 + 1)) then (if 0 ≤ x8 then (if x8 < (x5.length : Int) then ((some (x5.set ((wrap64 (x8 + 1)) : Int).toNat (wrap64 ((rd x5 (wrap64 (x8 + 1))) + (wrap64 (Int.tdiv (rd x5 x8) 10)))) : List Int)).bind fun y128 => (ashlarref01_Times.l2 k (y128.set (x8 : Int).toNat (Int.tmod (rd y128 x8) 10)) x6 (wrap64 (x8 + 1)) x113_0 x113_1 x114_0 x114_1)) else (none)) else (none)) else (none)) else (ashlarref01_Times.l0 k x5 (wrap64 (x6 + 1)) x113_0 x113_1 x114_0 x114_1)
end
def ashlarref01_Times.f (k : Nat) (a0_0 : Bool) (l0_1 : List Int) (a1_0 : Bool) (l1_1 : List Int) : Option (Bool × List Int) := if 0 ≤ (wrap64 ((wrap64 ((l0_1.length : Int) + (l1_1.length : Int))) + 1)) then (if (wrap64 ((wrap64 ((l0_1.length : Int) + (l1_1.length : Int))) + 1) : Int).toNat ≤ 35184372088832 then (ashlarref01_Times.l0 k (List.replicate (wrap64 ((wrap64 ((l0_1.length : Int) + (l1_1.length : Int))) + 1) : Int).toNat 0) 0 a0_0 l0_1 a1_0 l1_1) else (none)) else (none)
mutual
def ashlarref01_Over.l0 : Nat → List Int → Int → Bool → List Int → Bool → List Int → Bool → List Int → Option (Bool × List Int × Bool × List Int)
 | 0, _, _, _, _, _, _, _, _ => none
 | k + 1, x6, x8, x154_0, x154_1, x155_0, x155_1, x161_0, x161_1 => if x8 ≥ 0 then (if 0 ≤ x8 then (if x8 < (x154_1.length : Int) then ((some (([rd x154_1 x8] : List Int) : List Int)).bind fun y166 => (if y166.length + x161_1.length < 17592186044416 then ((ashlarref01_cut.f false (y166 ++ x161_1)).bind fun bt172 => (ashlarref01_Over.l1 k x6 x8 x154_0 x154_1 x155_0 x155_1 bt172.1 bt172.2)) else (none))) else (none)) else (none)) else ((ashlarref01_cut.f false x6).bind fun bt161 => (some (bt161.1, bt161.2, x161_0, x161_1)))
def ashlarref01_Over.l1 : Nat → List Int → Int → Bool → List Int → Bool → List Int → Bool → List Int → Option (Bool × List Int × Bool × List Int)
 | 0, _, _, _, _, _, _, _, _ => none
 | k + 1, x6, x8, x154_0, x154_1, x155_0, x155_1, x161_0, x161_1 => (ashlarref01_size.f k x161_1 x155_1).bind fun t176 => (if t176 ≥ 0 then ((ashlarref01_apart.f k x161_1 x155_1).bind fun t177 => ((ashlarref01_cut.f false t177).bind fun bt180 => (if 0 ≤ x8 then (if x8 < (x6.length : Int) then (ashlarref01_Over.l1 k (x6.set (x8 : Int).toNat (wrap64 ((rd x6 x8) + 1))) x8 x154_0 x154_1 x155_0 x155_1 bt180.1 bt180.2) else (none)) else (none)))) else (ashlarref01_Over.l0 k x6 (wrap64 (x8 - 1)) x154_0 x154_1 x155_0 x155_1 x161_0 x161_1))
end
def ashlarref01_Over.f (k : Nat) (a0_0 : Bool) (l0_1 : List Int) (a1_0 : Bool) (l1_1 : List Int) : Option (Bool × List Int × Bool × List Int) := if 0 ≤ (l0_1.length : Int) then (if ((l0_1.length : Int) : Int).toNat ≤ 35184372088832 then (ashlarref01_Over.l0 k (List.replicate ((l0_1.length : Int) : Int).toNat 0) (wrap64 ((l0_1.length : Int) - 1)) a0_0 l0_1 a1_0 l1_1 false ([] : List Int)) else (none)) else (none)
def ashlarref01_Gcd.l0 : Nat → Bool → List Int → Bool → List Int → Option (Bool × List Int)
 | 0, _, _, _, _ => none
 | k + 1, x190_0, x190_1, x191_0, x191_1 => if (x191_1.length : Int) > 0 then ((ashlarref01_Over.f k x190_0 x190_1 x191_0 x191_1).bind fun bt191 => (ashlarref01_Gcd.l0 k x191_0 x191_1 bt191.2.2.1 bt191.2.2.2)) else (some (x190_0, x190_1))
def ashlarref01_Gcd.f (k : Nat) (a0_0 : Bool) (l0_1 : List Int) (a1_0 : Bool) (l1_1 : List Int) : Option (Bool × List Int) := ashlarref01_Gcd.l0 k false l0_1 false l1_1
def ashlarref01_Int.l0 : Nat → Int → Int → Bool → List Int → Option (Int × Bool)
 | 0, _, _, _, _ => none
 | k + 1, x4, x5, x202_0, x202_1 => if x5 ≥ 0 then (if 0 ≤ x5 then (if x5 < (x202_1.length : Int) then (if x4 < (wrap64 (Int.tdiv (wrap64 ((-9223372036854775808) + (rd x202_1 x5))) 10)) then (some (0, false)) else (ashlarref01_Int.l0 k (wrap64 ((wrap64 (x4 * 10)) - (rd x202_1 x5))) (wrap64 (x5 - 1)) x202_0 x202_1)) else (none)) else (none)) else (if x202_0 = true then (some (x4, true)) else (if x4 = (-9223372036854775808) then (some (0, false)) else (some (wrap64 (-x4), true))))
def ashlarref01_Int.f (k : Nat) (a0_0 : Bool) (l0_1 : List Int) : Option (Int × Bool) := ashlarref01_Int.l0 k 0 (wrap64 ((l0_1.length : Int) - 1)) a0_0 l0_1
def ashlarref01_Turn.f (a0_0 : Bool) (l0_1 : List Int) : Option (Bool × List Int) := (ashlarref01_cut.f (!a0_0) l0_1).bind fun bt294 => (some (bt294.1, bt294.2))
def ashlarref01_Plus.l0 : Nat → List Int → Int → Int → Bool → List Int → Bool → List Int → Option (Bool × List Int)
 | 0, _, _, _, _, _, _, _ => none
 | k + 1, x5, x6, x7, x299_0, x299_1, x300_0, x300_1 => if x7 ≤ (mx (x299_1.length : Int) (x300_1.length : Int)) then ((ashlarref01_at.f x299_1 x7).bind fun t319 => ((ashlarref01_at.f x300_1 x7).bind fun t320 => (if x5.length < 17592186044416 then (ashlarref01_Plus.l0 k (x5 ++ [Int.tmod (wrap64 ((wrap64 (t319 + t320)) + x6)) 10]) (wrap64 (Int.tdiv (wrap64 ((wrap64 (t319 + t320)) + x6)) 10)) (wrap64 (x7 + 1)) x299_0 x299_1 x300_0 x300_1) else (none)))) else ((ashlarref01_cut.f x299_0 x5).bind fun bt324 => (some (bt324.1, bt324.2)))
def ashlarref01_Plus.f (k : Nat) (a0_0 : Bool) (l0_1 : List Int) (a1_0 : Bool) (l1_1 : List Int) : Option (Bool × List Int) := if (a0_0 != a1_0) = true then ((ashlarref01_size.f k l0_1 l1_1).bind fun t301 => (if t301 < 0 then ((ashlarref01_apart.f k l1_1 l0_1).bind fun t302 => ((ashlarref01_cut.f a1_0 t302).bind fun bt305 => (some (bt305.1, bt305.2)))) else ((ashlarref01_apart.f k l0_1 l1_1).bind fun t309 => ((ashlarref01_cut.f a0_0 t309).bind fun bt312 => (some (bt312.1, bt312.2)))))) else (ashlarref01_Plus.l0 k (([] : List Int)) 0 0 a0_0 l0_1 a1_0 l1_1)
end Go.Proofs.YtbpjnkeilhfajaaGreat.PNumReckons
end
