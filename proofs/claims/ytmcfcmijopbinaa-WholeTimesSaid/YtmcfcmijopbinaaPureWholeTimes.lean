/- The plain law of WholeTimes. -/
import Derived.Test.YtmcfcmijopbinaaPWholeTimesx1
import Derived.Test.YtmcfcmijopbinaaWhL
import Derived.Laws.BitsLemmas
namespace Go.Proofs
theorem Z300 {p : Prop} (h : p := by exact ⟨⟨by dsimp only; omega, by dsimp only; omega⟩, fun x hx => by simp only [List.mem_singleton] at hx; subst hx; exact ⟨by omega, by omega⟩⟩) : p := h
end Go.Proofs
namespace Go.Proofs.Ytmcfcmijopbinaa.Pure
open Go.RowKit Go.Proofs.Ytmcfcmijopbinaa.PWholeTimes Go.Proofs.Ytmcfcmijopbinaa.Ln Go.Proofs.Ytmcfcmijopbinaa.Lin Go.Proofs.YtmcfcmijopbinaaW.PrintWords Go.Proofs.YtmcfcmijopbinaaW.PrintLast Go.Proofs.Ytmcfcmijopbinaa.Given Go.Proofs.Ytmcfcmijopbinaa.Num
set_option linter.unusedVariables false
set_option linter.unusedSimpArgs false
theorem and7 (n : Int) : Go.bits .and .i64 n 7 = n % 8 := by
 have h7 : (BitVec.ofInt 64 7).toNat = 2 ^ 3 - 1 := by decide
 have key : (BitVec.ofInt 64 n &&& BitVec.ofInt 64 7).toNat = (n % ((2 ^ 64 : Nat) : Int)).toNat % 2 ^ 3 := by
  rw [BitVec.toNat_and, BitVec.toNat_ofInt, h7, Nat.and_two_pow_sub_one_eq_mod]
 show IntKind.i64.wrap ((BitVec.ofInt 64 n &&& BitVec.ofInt 64 7).toNat : Nat) = n % 8
 rw [key, IntKind.wrap_i64]
 omega
def itv (lo hi b n : Int) : Bool := decide (lo ≤ b * n) && decide (b * n ≤ hi)
theorem times_step {lo hi b ans n : Int} {t f : Bool} {p : List Int} (hb : 1 ≤ b ∧ b ≤ 8) (hn : -3 ≤ n ∧ n ≤ 3) (k : Nat) :
  ashlarlaw12_WholeTimes.l0 (k + 1) lo hi b t ans p f n = ashlarlaw12_WholeTimes.l0 k lo hi b t ans p (f || itv lo hi b n) (n + 1) := by
 have h1 : b * n ≤ 24 ∧ -24 ≤ b * n := by
  have h2 : b * n ≤ b * 3 := Int.mul_le_mul_of_nonneg_left hn.2 (by omega)
  have h3 : b * -3 ≤ b * n := Int.mul_le_mul_of_nonneg_left hn.1 (by omega)
  omega
 have w1 : wrap64 (b * n) = b * n := wrap64_in ⟨by omega, by omega⟩
 have w2 : wrap64 (n + 1) = n + 1 := wrap64_in ⟨by omega, by omega⟩
 rw [ashlarlaw12_WholeTimes.l0, if_pos hn.2, w1, w2]
 cases f with
 | true => rw [if_pos rfl, Bool.true_or]
 | false =>
  rw [if_neg (by decide), Bool.false_or]
  unfold itv
  by_cases h : b * n ≥ lo
  ·rw [if_pos h, decide_eq_true (show lo ≤ b * n from h), Bool.true_and]
  ·rw [if_neg h, decide_eq_false (show ¬ lo ≤ b * n from h), Bool.false_and]
def allv (lo hi b : Int) : Bool := ((((((false || itv lo hi b (-3)) || itv lo hi b (-3 + 1)) || itv lo hi b (-3 + 1 + 1)) || itv lo hi b (-3 + 1 + 1 + 1)) || itv lo hi b (-3 + 1 + 1 + 1 + 1)) || itv lo hi b (-3 + 1 + 1 + 1 + 1 + 1)) || itv lo hi b (-3 + 1 + 1 + 1 + 1 + 1 + 1)
theorem allv_is {lo hi b : Int} : allv lo hi b = true ↔ ∃ x, -3 ≤ x ∧ x ≤ 3 ∧ lo ≤ b * x ∧ b * x ≤ hi := by
 have hi' : ∀ n, itv lo hi b n = true ↔ lo ≤ b * n ∧ b * n ≤ hi := fun n => by unfold itv; simp
 unfold allv
 simp only [Bool.false_or, Bool.or_eq_true, hi']
 constructor
 ·rintro ((((((h | h) | h) | h) | h) | h) | h)
  ·exact ⟨-3, by omega, by omega, h⟩
  ·exact ⟨-2, by omega, by omega, by simpa using h⟩
  ·exact ⟨-1, by omega, by omega, by simpa using h⟩
  ·exact ⟨0, by omega, by omega, h⟩
  ·exact ⟨1, by omega, by omega, h⟩
  ·exact ⟨2, by omega, by omega, h⟩
  ·exact ⟨3, by omega, by omega, h⟩
 ·rintro ⟨x, h1, h2, h3⟩
  obtain rfl | rfl | rfl | rfl | rfl | rfl | rfl : x = -3 ∨ x = -2 ∨ x = -1 ∨ x = 0 ∨ x = 1 ∨ x = 2 ∨ x = 3 := by omega
  ·exact .inl (.inl (.inl (.inl (.inl (.inl h3)))))
  ·exact .inl (.inl (.inl (.inl (.inl (.inr h3)))))
  ·exact .inl (.inl (.inl (.inl (.inr h3))))
  ·exact .inl (.inl (.inl (.inr h3)))
  ·exact .inl (.inl (.inr h3))
  ·exact .inl (.inr h3)
  ·exact .inr h3
theorem times_loop {lo hi b ans : Int} {t : Bool} {p : List Int} (hb : 1 ≤ b ∧ b ≤ 8) (k : Nat) :
  ashlarlaw12_WholeTimes.l0 (k + 7) lo hi b t ans p false (-3) = ashlarlaw12_WholeTimes.l0 k lo hi b t ans p (allv lo hi b) 4 := by
 rw [times_step hb (by omega) (k + 6), times_step hb (by omega) (k + 5), times_step hb (by omega) (k + 4), times_step hb (by omega) (k + 3), times_step hb (by omega) (k + 2), times_step hb (by omega) (k + 1), times_step hb (by omega) k]
 rfl
theorem box1 : ashlarlaw12_box.f 20 1 3 = some [⟨[1], -3⟩, ⟨[-1], -3⟩] := by kernel_rfl
theorem tmod10 (a : Int) : (a.tmod 10).natAbs ≤ 9 := by
 have h1 := Int.tmod_lt_of_pos a (show (0 : Int) < 10 by decide)
 have h2 := Int.lt_tmod_of_pos a (show (0 : Int) < 10 by decide)
 omega
theorem WholeTimes : ashlarlaw12_WholeTimes.Pure := by
 intro a0 a1 a2 h0 h1 h2
 refine ⟨20, ?_⟩
 unfold ashlarlaw12_WholeTimes.f
 rw [and7, box1, show ashlarlaw12_shown.f = some true from rfl, Option.bind_some, Option.bind_some, Option.bind_some]
 have hlo := tmod10 a0
 have hhi := tmod10 a1
 have hb : 1 ≤ wrap64 (1 + a2 % 8) ∧ wrap64 (1 + a2 % 8) ≤ 8 := by
  rw [wrap64_in ⟨by omega, by omega⟩]; omega
 generalize a0.tmod 10 = lo at hlo ⊢
 generalize a1.tmod 10 = hi at hhi ⊢
 generalize wrap64 (1 + a2 % 8) = b at hb ⊢
 have w1 : wrap64 (-hi) = -hi := wrap64_in ⟨by omega, by omega⟩
 have w2 : wrap64 (-b) = -b := wrap64_in ⟨by omega, by omega⟩
 rw [w1, w2, if_pos (by simp)]
 have hz : (([⟨[1], -3⟩, ⟨[-1], -3⟩] ++ [⟨[b], -hi⟩, ⟨[-b], lo⟩] : List S25)).map toZ = boxZ 1 ++ [([b], -hi), ([-b], lo)] := rfl
 have hS : whole_Solve.f ([⟨[1], -3⟩, ⟨[-1], -3⟩] ++ [⟨[b], -hi⟩, ⟨[-b], lo⟩]) 1 1000 = some (wsolve (boxZ 1 ++ [([b], -hi), ([-b], lo)]) 1 1000 (chkW (boxZ 1 ++ [([b], -hi), ([-b], lo)]))) := by
  unfold whole_Solve.f
  rw [hz, if_pos]
  refine ⟨⟨fun r hr => ?_, by decide⟩, by simp⟩
  simp only [List.cons_append, List.nil_append, List.mem_cons, List.not_mem_nil, or_false] at hr
  rcases hr with rfl | rfl | rfl | rfl
  ·decide
  ·decide
  ·exact Z300
  ·exact Z300
 rw [hS, Option.bind_some, show (20 : Nat) = 13 + 7 from rfl, times_loop hb 13]
 rcases times_law hlo hhi hb with ⟨x, he, hx1, hx2, hx3, hx4⟩ | ⟨he, hno⟩
 ·rw [he]
  have hF : allv lo hi b = true := allv_is.2 ⟨x, hx1, hx2, hx3, hx4⟩
  have w3 : wrap64 (b * x) = b * x := wrap64_in ⟨by omega, by omega⟩
  rw [hF]
  unfold ashlarlaw12_WholeTimes.l0
  rw [if_neg (by decide)]
  dsimp only
  rw [if_pos rfl, if_pos (by simp), if_pos (by simp), show rd [x] 0 = x from rfl, w3, if_neg (by omega), if_neg (by omega), if_pos rfl, if_pos (by decide)]
  rfl
 ·rw [he]
  have hF : allv lo hi b = false := by
   cases h : allv lo hi b with
   | false => rfl
   | true => obtain ⟨x, h1, h2, h3⟩ := allv_is.1 h; exact (hno x h1 h2 h3).elim
  rw [hF]
  unfold ashlarlaw12_WholeTimes.l0
  rw [if_neg (by decide)]
  dsimp only
  rw [if_neg (by decide), if_pos rfl, if_pos (by decide)]
  rfl
end Go.Proofs.Ytmcfcmijopbinaa.Pure
