/- Contracts of num: gcd, whole, Add, Sub, Mul, Neg, Gcd. -/
import Derived.Test.YtdkbnbebioflaaaNumD
namespace Go.Proofs
theorem Z2b0 {p : Prop} (h : p := by rintro e w' ⟨rfl, rfl⟩; exact ⟨rfl, (by repeat (first | exact Below.refl _ _ | with_reducible assumption | refine Below.alloc ?_ (by first | exact Nat.le_refl _ | (simp; done) | (simp; omega) | omega) _ | refine Below.setCell ?_ (by first | exact Nat.le_refl _ | (simp; done) | (simp; omega) | omega) _ | refine Below.drew ?_ | refine bdrewN ?_ _))⟩) : p := h
end Go.Proofs
namespace Go.Proofs.Ytdkbnbebioflaaa.Num
open Go.RowKit
set_option linter.unusedVariables false
set_option linter.unusedSimpArgs false

theorem gcd_step (a b : Int) (ha : 0 ≤ a) (hb : 0 ≤ b) : Int.gcd b (a % b) = Int.gcd a b := by
  obtain ⟨x, rfl⟩ := Int.eq_ofNat_of_zero_le ha
  obtain ⟨y, rfl⟩ := Int.eq_ofNat_of_zero_le hb
  rw [← Int.natCast_emod, Int.gcd_natCast_natCast, Int.gcd_natCast_natCast, Nat.gcd_comm x y, Nat.gcd_comm y (x % y)]
  exact (Nat.gcd_rec y x).symm

theorem gcd_any (a b : Int) (w : World) (ha : 0 ≤ a) (ha2 : a < 18446744073709551616) (hb : 0 ≤ b) (hb2 : b < 18446744073709551616) :
    Calls Try.prog 14 #[.int .u64 a, .int .u64 b] w fun e w' => e = .returned (.int .u64 (Int.gcd a b)) ∧ ∃ n, w' = w.drewN n := by
  go_enter Try.func14, Try.ntmps14
  go_wp2
  go_loopw [0, 1] (fun x y W => ∃ p q : Int, 0 ≤ p ∧ 0 ≤ q ∧ x = .int .u64 p ∧ y = .int .u64 q ∧ Hid (Int.gcd p q = Int.gcd a b) ∧ ∃ n, W = w.drewN n) (fun _ y _ => (intOf y).toNat)
  case atStart => exact ⟨a, b, ha, hb, rfl, rfl, rfl, 0, rfl⟩
  case round =>
    obtain ⟨p, q, hp, hq, rfl, rfl, hg, n, rfl⟩ := hrel
    by_cases h0 : 0 < q
    · have e1 : decide (0 < q) = true := decide_eq_true h0
      have hne : ¬ q = 0 := by omega
      have hs := Lib.hid (gcd_step p q hp hq)
      go_wp2
      go_quiet (fail)

      go_roundw
      case rel => exact ⟨_, _, _, _, _, _, _, _, ⟨q, p % q, hq, Int.emod_nonneg _ hne, rfl, rfl, Lib.hid (by rw [hs.out, hg.out]), n + nq, by simp [World.drewN, Nat.add_assoc]⟩, rfl⟩
      case measure =>
        have := Int.emod_lt_of_pos p h0
        have := Int.emod_nonneg p hne
        simp [intOf]; omega
    · have e1 : decide (0 < q) = false := decide_eq_false h0
      obtain rfl : q = 0 := by omega
      go_wp2
      go_ret
      exact ⟨ret_int (by rw [← hg.out, Int.gcd_zero_right]; omega), n, rfl⟩

/-- A number that fits, and whether. -/
def fitp (x : Int) : Int × Bool := if -9223372036854775808 ≤ x ∧ x < 9223372036854775808 then (x, true) else (0, false)

/-- 'int64' of a wide number. -/
theorem int64_fits {x : Int} {b h l} (hw : WV x b h l) (hx : -9223372036854775808 ≤ x ∧ x < 9223372036854775808) (w : World) :
    Calls Try.prog 40 #[W b h l] w fun e w' => e = .returned (.int .i64 x) ∧ w' = w.alloc (.cells #[.bool b, .int .u64 h, .int .u64 l] 49) := by
  obtain ⟨h0, h1, l0, l1, hv⟩ := hw
  have hh : h = 0 := by cases b <;> simp at hv <;> omega
  subst hh
  have := int64_yes b l w l0 (by cases b <;> simp at hv <;> omega) (by cases b <;> simp at hv <;> intros <;> first | rfl | omega)
  refine this.mono ?_
  rintro e w' ⟨rfl, hb⟩
  refine ⟨ret_int ?_, hb⟩
  rw [hv]; split <;> omega

theorem int64_large {x : Int} {b h l} (hw : WV x b h l) (hx : ¬ (-9223372036854775808 ≤ x ∧ x < 9223372036854775808)) (w : World) :
    Calls Try.prog 40 #[W b h l] w fun e w' => e = .panicked LargeP ∧ w' = w.alloc (.cells #[.bool b, .int .u64 h, .int .u64 l] 49) := by
  obtain ⟨h0, h1, l0, l1, hv⟩ := hw
  refine int64_no b h l w ?_
  cases b <;> simp at hv ⊢ <;> omega

theorem cf_int64 (args : Array Value) (w : World) : (callFunc 40 args).run Try.prog w = .ok (.enter 40 args) w := by kernel_rfl

theorem whole_any {x : Int} {b h l} (hw : WV x b h l) (w : World) :
    Calls Try.prog 69 #[W b h l] w fun e w' => e = .returned (.tuple #[.int .i64 (fitp x).1, .bool (fitp x).2]) ∧ Below w.heap.size w w' := by
  by_cases hx : -9223372036854775808 ≤ x ∧ x < 9223372036854775808
  · have H := fun W0 => fits64_ok 40 #[W b h l] x W0 (cf_int64 _) (fun W1 _ => (int64_fits hw hx W1).mono Z2b0)
    have hf : fitp x = (x, true) := if_pos hx
    rw [hf]
    have H' := Lib.hid H
    clear H hf hx hw
    unfold W at *
    go_enter Try.func69, Try.ntmps69
    go_wp2_with fail
    refine (H'.out _).mono ?_
    rintro e w1 ⟨rfl, hb1⟩
    go_wp2
    go_ret2
    exact ⟨rfl, ((Below.refl _ _).alloc (Nat.le_refl _) _).trans (hb1.mono (by simp))⟩
  · have H := fun W0 => fits64_no 40 #[W b h l] W0 (cf_int64 _) (fun W1 _ => (int64_large hw hx W1).mono Z2b0)
    have hf : fitp x = (0, false) := if_neg hx
    rw [hf]
    have H' := Lib.hid H
    clear H hf hx hw
    unfold W at *
    go_enter Try.func69, Try.ntmps69
    go_wp2_with fail
    refine (H'.out _).mono ?_
    rintro e w1 ⟨rfl, hb1⟩
    go_wp2
    go_ret2
    exact ⟨rfl, ((Below.refl _ _).alloc (Nat.le_refl _) _).trans (hb1.mono (by simp))⟩

end Go.Proofs.Ytdkbnbebioflaaa.Num
