/- The plain law of NumWhole. -/
import Derived.Test.YtnggikhpnophgaaDigNumWhole
namespace Go.Proofs.Ytnggikhpnophgaa.Pure
open Go.RowKit Go.Proofs.Ytnggikhpnophgaa.PNumWhole Go.Proofs.YtnggikhpnophgaaW.PrintWords Go.Proofs.YtnggikhpnophgaaW.PrintLast Go.Proofs.Ytnggikhpnophgaa.Given Go.Proofs.Ytnggikhpnophgaa.Num Go.Proofs.Ytnggikhpnophgaa.Dig Go.Proofs.Ytnggikhpnophgaa.DigNumWhole
set_option linter.unusedVariables false
set_option linter.unusedSimpArgs false

theorem len_of {x : Int} {n : Nat} (h : x.natAbs < 10 ^ n) (hn : n ≤ 1000) : (dg x.natAbs).length ≤ 1000 := Nat.le_trans (dg_len h) hn

theorem NumWhole : ashlarlaw01_NumWhole.Pure := by
  intro a b ha0 hb0
  have ha := in64_wf ha0
  have hb := in64_wf hb0
  have la := Nat.le_trans (len_in ha) (show 19 ≤ 1000 by decide)
  have lb := Nat.le_trans (len_in hb) (show 19 ≤ 1000 by decide)
  have lnb : (dg (-b).natAbs).length ≤ 1000 := by rw [Int.natAbs_neg]; exact lb
  have lna : (dg (-a).natAbs).length ≤ 1000 := by rw [Int.natAbs_neg]; exact la
  have a1 : a.natAbs < 10 ^ 19 := by obtain ⟨h1, h2⟩ := ha; omega
  have b1 : b.natAbs < 10 ^ 19 := by obtain ⟨h1, h2⟩ := hb; omega
  have ls : (dg (a + b).natAbs).length ≤ 1000 := len_of (n := 20) (by omega) (by decide)
  have ld : (dg (a + -b).natAbs).length ≤ 1000 := len_of (n := 20) (by omega) (by decide)
  have lp : (dg (a * b).natAbs).length ≤ 1000 := by
    refine len_of (n := 38) ?_ (by decide)
    rw [Int.natAbs_mul, show (38 : Nat) = 19 + 19 from rfl, Nat.pow_add]
    exact Nat.mul_lt_mul_of_lt_of_lt a1 b1
  have lg : (dg (Nat.gcd a.natAbs b.natAbs)).length ≤ 1000 := by
    by_cases h : b.natAbs = 0
    · rw [h, Nat.gcd_zero_right]; exact la
    · exact len_le (Nat.le_of_dvd (by omega) (Nat.gcd_dvd_right _ _)) lb
  have h1 : num_Add.f a b = some (fitp (a + b)) := by unfold num_Add.f; rw [if_pos ⟨ha, hb⟩]
  have h2 : num_Sub.f a b = some (fitp (a - b)) := by unfold num_Sub.f; rw [if_pos ⟨ha, hb⟩]
  have h3 : num_Mul.f a b = some (fitp (a * b)) := by unfold num_Mul.f; rw [if_pos ⟨ha, hb⟩]
  have h4 : num_Neg.f a = some (fitp (-a)) := by unfold num_Neg.f; rw [if_pos ha]
  have h5 : num_Gcd.f a b = some (fitp (Int.gcd a b)) := by unfold num_Gcd.f; rw [if_pos ⟨ha, hb⟩]
  have : Frm (fun k => ashlarlaw01_NumWhole.f k a b) true := by
    unfold ashlarlaw01_NumWhole.f ashlarlaw01_shown.f
    simp only [Option.bind_some, h1, h2, h3, h4, h5, if_true]
    refine Frm.bind (of_dg ha) ?_
    refine Frm.bind (of_dg hb) ?_
    refine Frm.bind (plus_dg la lb) ?_
    refine Frm.bind (fits_dg _ ls (rep_val _)) ?_
    simp only [if_true, turn_dg la, turn_dg lb, Option.bind_some]
    refine Frm.bind (plus_dg la lnb) ?_
    have e : a - b = a + -b := by omega
    rw [e]
    refine Frm.bind (fits_dg _ ld (rep_val _)) ?_
    simp only [if_true]
    refine Frm.bind (times_dg la lb) ?_
    refine Frm.bind (fits_dg _ lp (rep_val _)) ?_
    simp only [if_true]
    refine Frm.bind (fits_dg _ lna (rep_val _)) ?_
    simp only [if_true]
    refine Frm.bind (gcd_dg la lb _ _) ?_
    refine Frm.bind (fits_dg _ lg (by rw [if_neg (fun h => by cases h)]; rfl)) ?_
    exact Frm.const fun k => rfl
  obtain ⟨k0, h⟩ := this
  exact ⟨k0, h k0 (Nat.le_refl _)⟩
end Go.Proofs.Ytnggikhpnophgaa.Pure
