import Derived.Test.YtoodfkbciodapaaChecked
import Derived.WalkKit
import Derived.Defers
import Derived.Recover
import Derived.Below
import Derived.OneCell
import Derived.KernelRfl
import Derived.Lib.Hide
import Derived.Shelf.Spec.BitsCarry
import Derived.Deep.Draws
import Derived.Deep.QuietTactic
import Derived.BigQuiet
import Derived.Deep.RegionHeld3
import Derived.RegionTactic
import Derived.StillTailTactics
import Derived.IntWalk
import Derived.Laws.Bits64b
import Derived.Laws.BitsLemmas
import Derived.Lib.BitFns
import Derived.Deep.RegionHeld
section
/- Contracts of num's wide numbers: size, of, neg, int64, less, plus. -/
namespace Go.Proofs.Ytoodfkbciodapaa.Num
open Go.RowKit
set_option linter.unusedVariables false
set_option linter.unusedSimpArgs false

/-- What was there reads as before. -/
theorem bcell {W w1 : World} (hb : Below W.heap.size W w1) : (∀ b o, b < W.heap.size → w1.cell? ⟨b, o, none⟩ = W.cell? ⟨b, o, none⟩) ∧ (∀ b o, b < W.heap.size → w1.frozen? ⟨b, o, none⟩ = W.frozen? ⟨b, o, none⟩) :=
  ⟨fun b o h => hb.cell (p := ⟨b, o, none⟩) h, fun b o h => hb.frozen (p := ⟨b, o, none⟩) h⟩

theorem bdrewN {B : Nat} {a w : World} (h : Below B a w) (n : Nat) : Below B a (w.drewN n) := ⟨h.os, h.tape, h.output, h.size, h.block⟩

/-- The panic of what does not fit. -/
theorem run_large (w : World) : (Instr.panic (Value.iface 71 (Value.agg #[]))).run Try.prog w = .halt (.panic (Value.iface 71 (Value.agg #[]))) w := by kernel_rfl

def LargeP : List PanicEntry := [{ v := .iface 71 (.agg #[]), recovered := false }]

theorem ret_int {k : IntKind} {a b : Int} (h : a = b) : Ending.returned (.int k a) = Ending.returned (.int k b) := by rw [h]

/-- A number's size. -/
def sz (a : Int) : Int := if a < 0 then -a else a
theorem sz_nonneg (a : Int) : 0 ≤ sz a := by unfold sz; split <;> omega
theorem sz_le {a : Int} (h : -9223372036854775808 ≤ a) (h2 : a < 9223372036854775808) : sz a ≤ 9223372036854775808 := by unfold sz; split <;> omega
theorem wrapu_neg {a : Int} (h : -9223372036854775808 ≤ a) (h2 : a < 0) : IntKind.u64.wrap (-(IntKind.u64.wrap a)) = sz a := by
  unfold sz
  simp only [IntKind.wrap, IntKind.signed, IntKind.bits]
  simp
  omega
theorem wrapi_neg {l : Int} (h : 0 ≤ l) (h2 : l ≤ 9223372036854775808) : wrap64 (IntKind.u64.wrap (-l)) = -l := by
  simp only [wrap64, IntKind.wrap, IntKind.signed, IntKind.bits]
  simp
  omega

theorem size_any (a : Int) (w : World) (h : -9223372036854775808 ≤ a) (h2 : a < 9223372036854775808) :
    Calls Try.prog 30 #[.int .i64 a] w fun e w' => e = .returned (.int .u64 (sz a)) ∧ w' = w := by
  by_cases hn : a < 0
  · have e1 : decide (a < 0) = true := decide_eq_true hn
    have hv := wrapu_neg h hn
    have H := Lib.hid hv
    clear hv
    go_enter Try.func30, Try.ntmps30
    go_wp2
    go_ret
    exact ⟨ret_int H.out, rfl⟩
  · have e1 : decide (a < 0) = false := decide_eq_false hn
    have hv : a = sz a := by unfold sz; rw [if_neg hn]
    have H := Lib.hid hv
    clear hv
    go_enter Try.func30, Try.ntmps30
    go_wp2
    go_ret
    exact ⟨ret_int H.out, rfl⟩

/-- 'int64': a number that does not fit panics. -/
theorem int64_no (b : Bool) (h l : Int) (w : World) (hn : 0 < h ∨ 9223372036854775808 < l ∨ (l = 9223372036854775808 ∧ b = false)) :
    Calls Try.prog 50 #[.agg #[.bool b, .int .u64 h, .int .u64 l]] w fun e w' =>
      e = .panicked LargeP ∧ w' = w.alloc (.cells #[.bool b, .int .u64 h, .int .u64 l] 52) := by
  have hp := run_large
  by_cases h1 : 0 < h
  · have e1 : decide (0 < h) = true := decide_eq_true h1
    clear hn
    go_enter Try.func50, Try.ntmps50
    go_wp2
    exact ⟨rfl, rfl, rfl⟩
  · have e1 : decide (0 < h) = false := decide_eq_false h1
    by_cases h2 : 9223372036854775808 < l
    · have e2 : decide (9223372036854775808 < l) = true := decide_eq_true h2
      clear hn
      go_enter Try.func50, Try.ntmps50
      go_wp2
      exact ⟨rfl, rfl, rfl⟩
    · obtain ⟨rfl, rfl⟩ : l = 9223372036854775808 ∧ b = false := by
        rcases hn with hn | hn | hn
        · exact absurd hn h1
        · exact absurd hn h2
        · exact hn
      clear hn h2
      go_enter Try.func50, Try.ntmps50
      go_wp2
      exact ⟨rfl, rfl, rfl⟩

/-- 'int64': a number that fits. -/
theorem int64_yes (b : Bool) (l : Int) (w : World) (h0 : 0 ≤ l) (h1 : l ≤ 9223372036854775808) (h2 : l = 9223372036854775808 → b = true) :
    Calls Try.prog 50 #[.agg #[.bool b, .int .u64 0, .int .u64 l]] w fun e w' =>
      e = .returned (.int .i64 (if b = true then -l else l)) ∧ w' = w.alloc (.cells #[.bool b, .int .u64 0, .int .u64 l] 52) := by
  have e2 : decide (9223372036854775808 < l) = false := decide_eq_false (by omega)
  cases b with
  | false =>
    have hl : l ≠ 9223372036854775808 := fun h => by simpa using h2 h
    have e3 : (l == 9223372036854775808) = false := beq_eq_false_iff_ne.2 hl
    have hl2 : l < 9223372036854775808 := by omega
    clear h2 hl
    go_enter Try.func50, Try.ntmps50
    go_wp2
    go_ret
    exact ⟨rfl, rfl⟩
  | true =>
    clear h2
    have hv := wrapi_neg h0 h1
    have H := Lib.hid hv
    clear hv
    by_cases e : l = 9223372036854775808
    · subst e
      go_enter Try.func50, Try.ntmps50
      go_wp2
      go_ret
      exact ⟨ret_int H.out, rfl⟩
    · have e3 : (l == 9223372036854775808) = false := beq_eq_false_iff_ne.2 e
      clear e
      go_enter Try.func50, Try.ntmps50
      go_wp2
      go_ret
      exact ⟨ret_int H.out, rfl⟩
end Go.Proofs.Ytoodfkbciodapaa.Num
end

section
/- Plain arithmetic of 64 and 128 bits. -/
namespace Go.Proofs.Ytoodfkbciodapaa.Num

theorem and32 {x : Int} (h : 0 ≤ x) (h2 : x < 18446744073709551616) : bits .and .u64 x 4294967295 = x % 4294967296 :=
  bits_mask .u64 64 (by decide) (fun n h0 h1 => by rw [IntKind.wrap_u64]; omega) 32 (by decide) x h h2

theorem mul_bound {a b m n : Int} (ha : 0 ≤ a) (ha2 : a ≤ m) (hb : 0 ≤ b) (hb2 : b ≤ n) : 0 ≤ a * b ∧ a * b ≤ m * n :=
  ⟨Int.mul_nonneg ha hb, Int.mul_le_mul ha2 hb2 hb (by omega)⟩

theorem mul_lo {x y : Int} : IntKind.u64.wrap (x * y) = x * y % 18446744073709551616 := by rw [IntKind.wrap_u64]

theorem mul_hi {x y : Int} (hx : 0 ≤ x) (hx2 : x < 18446744073709551616) (hy : 0 ≤ y) (hy2 : y < 18446744073709551616) :
    IntKind.u64.wrap
      (IntKind.u64.wrap
          (IntKind.u64.wrap (x / 4294967296 * (y / 4294967296)) +
            IntKind.u64.wrap
                (IntKind.u64.wrap (x / 4294967296 * bits BinOp.and .u64 y 4294967295) +
                  IntKind.u64.wrap (bits BinOp.and .u64 x 4294967295 * bits BinOp.and .u64 y 4294967295) / 4294967296) /
              4294967296) +
        IntKind.u64.wrap
            (bits BinOp.and .u64
                (IntKind.u64.wrap
                  (IntKind.u64.wrap (x / 4294967296 * bits BinOp.and .u64 y 4294967295) +
                    IntKind.u64.wrap (bits BinOp.and .u64 x 4294967295 * bits BinOp.and .u64 y 4294967295) / 4294967296))
                4294967295 +
              IntKind.u64.wrap (bits BinOp.and .u64 x 4294967295 * (y / 4294967296))) /
          4294967296) = x * y / 18446744073709551616 := by
  rw [and32 hx hx2, and32 hy hy2]
  have hxe : x = x / 4294967296 * 4294967296 + x % 4294967296 := by omega
  have hye : y = y / 4294967296 * 4294967296 + y % 4294967296 := by omega
  have x10 : 0 ≤ x / 4294967296 := by omega
  have x11 : x / 4294967296 ≤ 4294967295 := by omega
  have x00 : 0 ≤ x % 4294967296 := by omega
  have x01 : x % 4294967296 ≤ 4294967295 := by omega
  have y10 : 0 ≤ y / 4294967296 := by omega
  have y11 : y / 4294967296 ≤ 4294967295 := by omega
  have y00 : 0 ≤ y % 4294967296 := by omega
  have y01 : y % 4294967296 ≤ 4294967295 := by omega
  generalize x / 4294967296 = a at *
  generalize x % 4294967296 = b at *
  generalize y / 4294967296 = c at *
  generalize y % 4294967296 = d at *
  have hp : x * y = a * c * 18446744073709551616 + (a * d + b * c) * 4294967296 + b * d := by rw [hxe, hye]; grind
  rw [hp]
  obtain ⟨p0, p1⟩ := mul_bound x10 x11 y10 y11
  obtain ⟨q0, q1⟩ := mul_bound x10 x11 y00 y01
  obtain ⟨r0, r1⟩ := mul_bound x00 x01 y10 y11
  obtain ⟨s0, s1⟩ := mul_bound x00 x01 y00 y01
  generalize a * c = p at *
  generalize a * d = q at *
  generalize b * c = r at *
  generalize b * d = s at *
  have f1 : IntKind.u64.wrap (IntKind.u64.wrap q + IntKind.u64.wrap s / 4294967296) = q + s / 4294967296 := by simp only [IntKind.wrap_u64]; omega
  rw [f1, and32 (by omega) (by omega)]
  simp only [IntKind.wrap_u64]
  omega

/-! Half a step of a long division: a digit, guessed by the first digit of what is divided by. -/
def HInv (u v1 q r Q : Int) : Prop := 0 ≤ q ∧ q ≤ 4294967297 ∧ 0 ≤ r ∧ r < 4294967296 ∧ q * v1 + r = u ∧ Q ≤ q

structure Half (u v1 v0 Y d Q : Int) : Prop where
  hY : Y = v1 * 4294967296 + v0
  h1 : 2147483648 ≤ v1
  h1' : v1 < 4294967296
  h0 : 0 ≤ v0
  h0' : v0 < 4294967296
  hu : 0 ≤ u
  hu' : u < Y
  hd : 0 ≤ d
  hd' : d < 4294967296
  hQ : Q = (u * 4294967296 + d) / Y

section
variable {u v1 v0 Y d q r Q : Int}
theorem half_le (H : Half u v1 v0 Y d Q) : q ≤ Q ↔ q * v1 * 4294967296 + q * v0 ≤ u * 4294967296 + d := by
  obtain ⟨hY, h1, h1', h0, h0', hu, hu', hd, hd', hQ⟩ := H
  rw [hQ, Int.le_ediv_iff_mul_le (by omega)]
  have : q * Y = q * v1 * 4294967296 + q * v0 := by rw [hY]; grind
  rw [this]

theorem half_start (H : Half u v1 v0 Y d Q) (hq : q = u / v1) (hr : r = u % v1) : HInv u v1 q r Q := by
  have H' := H
  obtain ⟨hY, h1, h1', h0, h0', hu, hu', hd, hd', hQ⟩ := H
  have e : q * v1 + r = u := by rw [hq, hr]; have := Int.mul_ediv_add_emod u v1; grind
  have r0 : 0 ≤ r := by rw [hr]; exact Int.emod_nonneg _ (by omega)
  have r1 : r < v1 := by rw [hr]; exact Int.emod_lt_of_pos _ (by omega)
  have q0 : 0 ≤ q := by rw [hq]; exact Int.ediv_nonneg hu (by omega)
  have q1 : q ≤ 4294967297 := by
    rw [hq]
    have : u / v1 < 4294967298 := by
      rw [Int.ediv_lt_iff_lt_mul (by omega)]
      omega
    omega
  refine ⟨q0, q1, r0, by omega, e, ?_⟩
  -- one more than q is above
  have hn : ¬ (q + 1 ≤ Q) := by
    rw [half_le H']
    have a1 : (q + 1) * v1 = q * v1 + v1 := by grind
    have a2 : 0 ≤ (q + 1) * v0 := Int.mul_nonneg (by omega) h0
    rw [a1]
    omega
  omega

theorem half_more (H : Half u v1 v0 Y d Q) (hi : HInv u v1 q r Q) (hc : 4294967296 ≤ q ∨ 4294967296 * r + d < q * v0) :
    1 ≤ q ∧ Q ≤ q - 1 ∧ (q - 1) * v1 + (r + v1) = u ∧ (4294967296 ≤ r + v1 → q - 1 = Q) := by
  have H' := H
  obtain ⟨hY, h1, h1', h0, h0', hu, hu', hd, hd', hQ⟩ := H
  obtain ⟨q0, q1, r0, r1, e, hl⟩ := hi
  have hlt : Q < q := by
    rcases hc with hc | hc
    · have hn : ¬ (4294967296 ≤ Q) := by
        rw [half_le H']
        omega
      omega
    · have hn : ¬ (q ≤ Q) := by
        rw [half_le H']
        omega
      omega
  have q2 : 1 ≤ q := by
    have : 0 ≤ Q := by rw [hQ]; exact Int.ediv_nonneg (by omega) (by omega)
    omega
  have e2 : (q - 1) * v1 + (r + v1) = u := by rw [← e]; grind
  refine ⟨q2, by omega, e2, fun hb => ?_⟩
  have : q - 1 ≤ Q := by
    rw [half_le H']
    have b := (mul_bound (a := q - 1) (b := v0) (m := 4294967296) (n := 4294967295) (by omega) (by omega) h0 (by omega)).2
    omega
  omega

theorem half_stop (H : Half u v1 v0 Y d Q) (hi : HInv u v1 q r Q) (hc2 : q * v0 ≤ 4294967296 * r + d) : q = Q := by
  obtain ⟨q0, q1, r0, r1, e, hl⟩ := hi
  have : q ≤ Q := by
    rw [half_le H]
    omega
  omega

theorem half_mul (h0 : 0 ≤ v0) (h0' : v0 < 4294967296) (hc : 0 ≤ q) (hc2 : q < 4294967296) : 0 ≤ q * v0 ∧ q * v0 < 18446744073709551616 := by
  have := mul_bound hc (show q ≤ 4294967295 by omega) h0 (show v0 ≤ 4294967295 by omega)
  omega
end

theorem bitLen_spec : ∀ (n x : Nat), x ≤ n → x ≠ 0 → x < 2 ^ 64 → 1 ≤ Lib.bitLen x ∧ 2 ^ (Lib.bitLen x - 1) ≤ x ∧ x < 2 ^ Lib.bitLen x := by
  intro n
  induction n with
  | zero => intro x h1 h2; omega
  | succ n ih =>
    intro x h1 h2 h3
    rw [Lib.bitLen_half x h2 h3]
    by_cases hx : x / 2 = 0
    · have : x = 1 := by omega
      subst this
      decide
    · obtain ⟨a, b, c⟩ := ih (x / 2) (by omega) hx (by omega)
      refine ⟨by omega, ?_, ?_⟩
      · rw [show 1 + Lib.bitLen (x / 2) - 1 = (Lib.bitLen (x / 2) - 1) + 1 from by omega, Nat.pow_succ]
        omega
      · rw [Nat.pow_add]
        omega
theorem bitLen_le {x : Nat} (h : x < 2 ^ 64) : Lib.bitLen x ≤ 64 := by
  by_cases h0 : x = 0
  · subst h0; decide
  · obtain ⟨a, b, c⟩ := bitLen_spec x x (Nat.le_refl _) h0 h
    by_cases hb : Lib.bitLen x ≤ 64
    · exact hb
    · have : 2 ^ 64 ≤ 2 ^ (Lib.bitLen x - 1) := Nat.pow_le_pow_right (by decide) (by omega)
      omega

theorem norm_facts {y : Int} (h0 : 0 < y) (h : y < 18446744073709551616) :
    0 ≤ 64 - (Lib.bitLen y.toNat : Int) ∧ 64 - (Lib.bitLen y.toNat : Int) < 64 ∧ 9223372036854775808 ≤ y * 2 ^ (64 - (Lib.bitLen y.toNat : Int)).toNat ∧ y * 2 ^ (64 - (Lib.bitLen y.toNat : Int)).toNat < 18446744073709551616 ∧
    (2 : Int) ^ (64 - (Lib.bitLen y.toNat : Int)).toNat * 2 ^ (64 - (64 - (Lib.bitLen y.toNat : Int))).toNat = 18446744073709551616 := by
  obtain ⟨x, rfl⟩ := Int.eq_ofNat_of_zero_le (Int.le_of_lt h0)
  have hx : x < 2 ^ 64 := by omega
  obtain ⟨a, b, c⟩ := bitLen_spec x x (Nat.le_refl _) (by omega) hx
  have d := bitLen_le hx
  simp only [Int.toNat_natCast]
  have e1 : (64 - (Lib.bitLen x : Int)).toNat = 64 - Lib.bitLen x := by omega
  have e2 : (64 - (64 - (Lib.bitLen x : Int))).toNat = Lib.bitLen x := by omega
  rw [e1, e2]
  have p1 : 2 ^ (Lib.bitLen x - 1) * 2 ^ (64 - Lib.bitLen x) = 9223372036854775808 := by rw [← Nat.pow_add, show Lib.bitLen x - 1 + (64 - Lib.bitLen x) = 63 from by omega]
  have p2 : 2 ^ (64 - Lib.bitLen x) * 2 ^ (Lib.bitLen x) = 18446744073709551616 := by rw [← Nat.pow_add, show 64 - Lib.bitLen x + Lib.bitLen x = 64 from by omega]
  have q1 := Nat.mul_le_mul_right (2 ^ (64 - Lib.bitLen x)) b
  have q2 := (Nat.mul_lt_mul_right (a := 2 ^ (64 - Lib.bitLen x)) (Nat.pow_pos (by decide))).2 c
  rw [p1] at q1
  rw [Nat.mul_comm (2 ^ Lib.bitLen x), p2] at q2
  have k1 : (x : Int) * 2 ^ (64 - Lib.bitLen x) = ((x * 2 ^ (64 - Lib.bitLen x) : Nat) : Int) := by rw [Int.natCast_mul, Int.natCast_pow]; rfl
  have k2 : (2 : Int) ^ (64 - Lib.bitLen x) * 2 ^ (Lib.bitLen x) = ((2 ^ (64 - Lib.bitLen x) * 2 ^ (Lib.bitLen x) : Nat) : Int) := by rw [Int.natCast_mul, Int.natCast_pow, Int.natCast_pow]; rfl
  rw [k1, k2, p2]
  generalize x * 2 ^ (64 - Lib.bitLen x) = z at *
  exact ⟨by omega, by omega, by omega, by omega, rfl⟩

/-- A step of the division: out of the head u < Y and a digit. -/
theorem half_rest {u v1 v0 Y d Q : Int} (H : Half u v1 v0 Y d Q) : 0 ≤ Q ∧ Q < 4294967296 ∧ 0 ≤ u * 4294967296 + d - Q * Y ∧ u * 4294967296 + d - Q * Y < Y := by
  obtain ⟨hY, h1, h1', h0, h0', hu, hu', hd, hd', hQ⟩ := H
  have e := Int.mul_ediv_add_emod (u * 4294967296 + d) Y
  have r0 := Int.emod_nonneg (u * 4294967296 + d) (show Y ≠ 0 by omega)
  have r1 := Int.emod_lt_of_pos (u * 4294967296 + d) (show 0 < Y by omega)
  rw [← hQ, Int.mul_comm] at e
  refine ⟨?_, ?_, by omega, by omega⟩
  · rw [hQ]; exact Int.ediv_nonneg (by omega) (by omega)
  · rw [hQ, Int.ediv_lt_iff_lt_mul (by omega)]; omega
end Go.Proofs.Ytoodfkbciodapaa.Num
end

section
/- Contracts of num's wide numbers: of, neg, product, less, plus. -/
namespace Go.Proofs.Ytoodfkbciodapaa.Num
open Go.RowKit
set_option linter.unusedVariables false
set_option linter.unusedSimpArgs false

/-- A wide number's value. -/
def WV (x : Int) (b : Bool) (h l : Int) : Prop := 0 ≤ h ∧ h < 18446744073709551616 ∧ 0 ≤ l ∧ l < 18446744073709551616 ∧ x = if b = true then -(h * 18446744073709551616 + l) else h * 18446744073709551616 + l
@[reducible, go_sem] def W (b : Bool) (h l : Int) : Value := .agg #[.bool b, .int .u64 h, .int .u64 l]
def IsW (x : Int) (v : Value) : Prop := ∃ b h l, v = W b h l ∧ WV x b h l

theorem of_any (a : Int) (w : World) (h : -9223372036854775808 ≤ a) (h2 : a < 9223372036854775808) :
    Calls Try.prog 45 #[.int .i64 a] w fun e w' => e = .returned (W (decide (a < 0)) 0 (sz a)) ∧ Below w.heap.size w w' := by
  go_enter Try.func45, Try.ntmps45
  go_wp2_with (go_at_call 30; refine (size_any _ _ h h2).mono ?_; rintro e w' ⟨rfl, rfl⟩)
  exact bodyPost_ret (v := W (decide (a < 0)) 0 (sz a)) (by simp [results, Try.results45, go_sem, W]) rfl ⟨rfl, (by repeat (first | exact Below.refl _ _ | with_reducible assumption | refine Below.alloc ?_ (by first | exact Nat.le_refl _ | (simp; done) | (simp; omega) | omega) _ | refine Below.setCell ?_ (by first | exact Nat.le_refl _ | (simp; done) | (simp; omega) | omega) _ | refine Below.drew ?_ | refine bdrewN ?_ _))⟩

theorem neg_any (b : Bool) (h l : Int) (w : World) :
    Calls Try.prog 42 #[W b h l] w fun e w' => e = .returned (W (!b) h l) ∧ w' = (w.alloc (.cells #[.bool b, .int .u64 h, .int .u64 l] 52)).alloc (.cells #[.bool (!b), .int .u64 h, .int .u64 l] 52) := by
  unfold W
  go_enter Try.func42, Try.ntmps42
  go_wp2
  exact bodyPost_ret (v := W (!b) h l) (by simp [results, Try.results42, go_sem, W]) rfl ⟨rfl, rfl⟩

theorem less_any (b h l b2 h2 l2) (w : World) :
    Calls Try.prog 59 #[W b h l, W b2 h2 l2] w fun e w' => e = .returned (.bool (decide (h < h2 ∨ (h = h2 ∧ l < l2)))) ∧ w' = (w.alloc (.cells #[.bool b, .int .u64 h, .int .u64 l] 52)).alloc (.cells #[.bool b2, .int .u64 h2, .int .u64 l2] 52) := by
  unfold W
  by_cases c1 : h < h2
  · have e1 : decide (h < h2) = true := decide_eq_true c1
    have hf : decide (h < h2 ∨ (h = h2 ∧ l < l2)) = true := decide_eq_true (.inl c1)
    rw [hf]
    clear hf
    go_enter Try.func59, Try.ntmps59
    go_wp2
    go_ret
    exact ⟨rfl, rfl⟩
  · have e1 : decide (h < h2) = false := decide_eq_false c1
    by_cases c2 : h = h2
    · subst c2
      have hf : decide (h < h ∨ (h = h ∧ l < l2)) = decide (l < l2) := by simp
      rw [hf]
      clear hf
      go_enter Try.func59, Try.ntmps59
      go_wp2
      go_ret
      exact ⟨rfl, rfl⟩
    · have e2 : (h == h2) = false := beq_eq_false_iff_ne.2 c2
      have hf : decide (h < h2 ∨ (h = h2 ∧ l < l2)) = false := decide_eq_false (by rintro (x | x); exact c1 x; exact c2 x.1)
      rw [hf]
      clear hf c2
      go_enter Try.func59, Try.ntmps59
      go_wp2
      go_ret
      exact ⟨rfl, rfl⟩

theorem mul64_any (x y : Int) (w : World) (hx : 0 ≤ x) (hx2 : x < 18446744073709551616) (hy : 0 ≤ y) (hy2 : y < 18446744073709551616) :
    Calls Try.prog 31 #[.int .u64 x, .int .u64 y] w fun e w' => e = .returned (.tuple #[.int .u64 (x * y / 18446744073709551616), .int .u64 (x * y % 18446744073709551616)]) ∧ w' = w := by
  have H := Lib.hid (mul_hi hx hx2 hy hy2)
  go_enter Try.func31, Try.ntmps31
  go_wp2
  go_ret2
  exact ⟨congrArg Ending.returned (congrArg Value.tuple (by rw [show x * y / 18446744073709551616 = _ from H.out.symm, ← mul_lo]; rfl)), rfl⟩

/-- A product's sign. -/
def sg (a b : Int) : Bool := decide (a < 0) != decide (b < 0)

/-- A product is exact. -/
theorem product_any (a b : Int) (w : World) (h : -9223372036854775808 ≤ a) (h2 : a < 9223372036854775808) (k : -9223372036854775808 ≤ b) (k2 : b < 9223372036854775808) :
    Calls Try.prog 33 #[.int .i64 a, .int .i64 b] w fun e w' =>
      e = .returned (W (sg a b) (sz a * sz b / 18446744073709551616) (sz a * sz b % 18446744073709551616)) ∧ w' = w.alloc (.cells #[.bool (sg a b), .int .u64 (sz a * sz b / 18446744073709551616), .int .u64 (sz a * sz b % 18446744073709551616)] 52) := by
  have a1 := sz_nonneg a
  have a2 := sz_le h h2
  have b1 := sz_nonneg b
  have b2 := sz_le k k2
  go_enter Try.func33, Try.ntmps33
  go_wp2_with fail
  refine (size_any _ _ h h2).mono ?_
  rintro e w' ⟨rfl, rfl⟩
  go_wp2_with fail
  refine (size_any _ _ k k2).mono ?_
  rintro e w' ⟨rfl, rfl⟩
  go_wp2_with fail
  refine (mul64_any _ _ _ a1 (by omega) b1 (by omega)).mono ?_
  rintro e w' ⟨rfl, rfl⟩
  go_wp2
  exact bodyPost_ret (v := W (sg a b) (sz a * sz b / 18446744073709551616) (sz a * sz b % 18446744073709551616)) (by simp [results, Try.results33, go_sem, W, sg] <;> cases decide (a < 0) <;> cases decide (b < 0) <;> rfl) rfl ⟨rfl, by simp [sg] <;> cases decide (a < 0) <;> cases decide (b < 0) <;> rfl⟩

theorem run_add (x y c : Int) (hx : 0 ≤ x) (hy : 0 ≤ y) (hc0 : 0 ≤ c) (hc : c ≤ 1) (w : World) :
    (callFunc 58 #[.int .u64 x, .int .u64 y, .int .u64 c]).run Try.prog w =
      .ok (.value (.tuple #[.int .u64 ((x + y + c) % 18446744073709551616), .int .u64 ((x + y + c) / 18446744073709551616)])) w := by
  rw [run_callFunc_extern Try.func58 (by kernel_rfl) (by kernel_rfl) (by kernel_rfl) (e := add64Entry) (by kernel_rfl), run_add64 x y c hx hy hc0 hc]
  rfl

theorem run_sub (x y b : Int) (hx : 0 ≤ x) (hy : 0 ≤ y) (hy2 : y < 18446744073709551616) (hc0 : 0 ≤ b) (hc : b ≤ 1) (w : World) :
    (callFunc 60 #[.int .u64 x, .int .u64 y, .int .u64 b]).run Try.prog w =
      .ok (.value (.tuple #[.int .u64 ((x - y - b) % 18446744073709551616), .int .u64 (if x < y + b then 1 else 0)])) w := by
  obtain ⟨X, rfl⟩ := Int.eq_ofNat_of_zero_le hx
  obtain ⟨Y, rfl⟩ := Int.eq_ofNat_of_zero_le hy
  obtain ⟨B, rfl⟩ := Int.eq_ofNat_of_zero_le hc0
  rw [run_callFunc_extern Try.func60 (by kernel_rfl) (by kernel_rfl) (by kernel_rfl) (e := Go.Proofs.sub64Entry) (by kernel_rfl), Go.Proofs.run_sub64 X Y B (by omega)]
  simp only [Result.andThen]
  have e1 : (((X + 18446744073709551616 - Y - B) % 18446744073709551616 : Nat) : Int) = ((X : Int) - Y - B) % 18446744073709551616 := by omega
  have e2 : ((if X < Y + B then 1 else 0 : Nat) : Int) = if (X : Int) < Y + B then 1 else 0 := by
    by_cases h : X < Y + B
    · rw [if_pos h, if_pos (by omega)]; rfl
    · rw [if_neg h, if_neg (by omega)]; rfl
  rw [e1, e2]

theorem plus_same (b : Bool) (h l h2 l2 : Int) (w : World) (h0 : 0 ≤ h) (l0 : 0 ≤ l) (l1 : l < 18446744073709551616) (k0 : 0 ≤ h2) (m0 : 0 ≤ l2) (m1 : l2 < 18446744073709551616) :
    Calls Try.prog 41 #[W b h l, W b h2 l2] w fun e w' =>
      e = .returned (W b ((h + h2 + (l + l2) / 18446744073709551616) % 18446744073709551616) ((l + l2) % 18446744073709551616)) ∧ Below w.heap.size w w' := by
  unfold W
  have r1 := run_add l l2 0 l0 m0 (by omega) (by omega)
  rw [Int.add_zero] at r1
  have r2 := run_add h h2 ((l + l2) / 18446744073709551616) h0 k0 (by omega) (by omega)
  go_enter Try.func41, Try.ntmps41
  go_wp2
  exact bodyPost_ret (v := W b ((h + h2 + (l + l2) / 18446744073709551616) % 18446744073709551616) ((l + l2) % 18446744073709551616)) (by simp [results, Try.results41, go_sem, W]) rfl ⟨rfl, (by repeat (first | exact Below.refl _ _ | with_reducible assumption | refine Below.alloc ?_ (by first | exact Nat.le_refl _ | (simp; done) | (simp; omega) | omega) _ | refine Below.setCell ?_ (by first | exact Nat.le_refl _ | (simp; done) | (simp; omega) | omega) _ | refine Below.drew ?_ | refine bdrewN ?_ _))⟩

theorem plus_less (b : Bool) (h l h2 l2 : Int) (w : World) (h0 : 0 ≤ h) (h1 : h < 18446744073709551616) (l0 : 0 ≤ l) (l1 : l < 18446744073709551616) (k0 : 0 ≤ h2) (m0 : 0 ≤ l2) (m1 : l2 < 18446744073709551616) (hlt : h < h2 ∨ (h = h2 ∧ l < l2)) :
    Calls Try.prog 41 #[W b h l, W (!b) h2 l2] w fun e w' =>
      e = .returned (W (!b) ((h2 - h - (if l2 < l then 1 else 0)) % 18446744073709551616) ((l2 - l) % 18446744073709551616)) ∧ Below w.heap.size w w' := by
  have hd : decide (h < h2 ∨ (h = h2 ∧ l < l2)) = true := decide_eq_true hlt
  have hb : (b == !b) = false := by cases b <;> rfl
  have r1 := run_sub l2 l 0 m0 l0 l1 (by omega) (by omega)
  rw [Int.sub_zero, Int.add_zero] at r1
  have r2 := run_sub h2 h (if l2 < l then 1 else 0) k0 h0 h1 (by split <;> omega) (by split <;> omega)
  have H := Lib.hid (show ∃ c : Int, (if l2 < l then 1 else 0) = c from ⟨_, rfl⟩)
  obtain ⟨c, hc⟩ := H.out
  clear H
  rw [hc] at r1 r2 ⊢
  have hc' := Lib.hid hc
  clear hc hlt
  generalize (if h2 < h + c then (1 : Int) else 0) = c2 at r2
  have hless := fun W0 => less_any b h l (!b) h2 l2 W0
  rw [hd] at hless
  have hless' := Lib.hid hless
  clear hless hd
  unfold W
  go_enter Try.func41, Try.ntmps41
  go_wp2_with fail
  refine (hless'.out _).mono ?_
  rintro e w1 ⟨rfl, rfl⟩
  go_wp2
  exact bodyPost_ret (v := W (!b) ((h2 - h - c) % 18446744073709551616) ((l2 - l) % 18446744073709551616)) (by simp [results, Try.results41, go_sem, W]) rfl ⟨rfl, (by repeat (first | exact Below.refl _ _ | with_reducible assumption | refine Below.alloc ?_ (by first | exact Nat.le_refl _ | (simp; done) | (simp; omega) | omega) _ | refine Below.setCell ?_ (by first | exact Nat.le_refl _ | (simp; done) | (simp; omega) | omega) _ | refine Below.drew ?_ | refine bdrewN ?_ _))⟩

theorem plus_more (b : Bool) (h l h2 l2 : Int) (w : World) (h0 : 0 ≤ h) (h1 : h < 18446744073709551616) (l0 : 0 ≤ l) (l1 : l < 18446744073709551616) (k0 : 0 ≤ h2) (k1 : h2 < 18446744073709551616) (m0 : 0 ≤ l2) (m1 : l2 < 18446744073709551616) (hlt : ¬ (h < h2 ∨ (h = h2 ∧ l < l2))) :
    Calls Try.prog 41 #[W b h l, W (!b) h2 l2] w fun e w' =>
      e = .returned (W b ((h - h2 - (if l < l2 then 1 else 0)) % 18446744073709551616) ((l - l2) % 18446744073709551616)) ∧ Below w.heap.size w w' := by
  have hd : decide (h < h2 ∨ (h = h2 ∧ l < l2)) = false := decide_eq_false hlt
  have hb : (b == !b) = false := by cases b <;> rfl
  have r1 := run_sub l l2 0 l0 m0 m1 (by omega) (by omega)
  rw [Int.sub_zero, Int.add_zero] at r1
  have r2 := run_sub h h2 (if l < l2 then 1 else 0) h0 k0 k1 (by split <;> omega) (by split <;> omega)
  have H := Lib.hid (show ∃ c : Int, (if l < l2 then 1 else 0) = c from ⟨_, rfl⟩)
  obtain ⟨c, hc⟩ := H.out
  clear H
  rw [hc] at r1 r2 ⊢
  have hc' := Lib.hid hc
  clear hc hlt
  generalize (if h < h2 + c then (1 : Int) else 0) = c2 at r2
  have hless := fun W0 => less_any b h l (!b) h2 l2 W0
  rw [hd] at hless
  have hless' := Lib.hid hless
  clear hless hd
  unfold W
  go_enter Try.func41, Try.ntmps41
  go_wp2_with fail
  refine (hless'.out _).mono ?_
  rintro e w1 ⟨rfl, rfl⟩
  go_wp2
  exact bodyPost_ret (v := W b ((h - h2 - c) % 18446744073709551616) ((l - l2) % 18446744073709551616)) (by simp [results, Try.results41, go_sem, W]) rfl ⟨rfl, (by repeat (first | exact Below.refl _ _ | with_reducible assumption | refine Below.alloc ?_ (by first | exact Nat.le_refl _ | (simp; done) | (simp; omega) | omega) _ | refine Below.setCell ?_ (by first | exact Nat.le_refl _ | (simp; done) | (simp; omega) | omega) _ | refine Below.drew ?_ | refine bdrewN ?_ _))⟩

/-- A sum that has room. -/
theorem plus_any (x y : Int) (b h l b2 h2 l2) (w : World) (hx : WV x b h l) (hy : WV y b2 h2 l2)
    (hr : h * 18446744073709551616 + l + (h2 * 18446744073709551616 + l2) < 340282366920938463463374607431768211456) :
    Calls Try.prog 41 #[W b h l, W b2 h2 l2] w fun e w' => (∃ b3 h3 l3, e = .returned (W b3 h3 l3) ∧ WV (x + y) b3 h3 l3) ∧ Below w.heap.size w w' := by
  obtain ⟨h0, h1, l0, l1, hx⟩ := hx
  obtain ⟨k0, k1, m0, m1, hy⟩ := hy
  by_cases hb : b = b2
  · subst hb
    refine (plus_same b h l h2 l2 w h0 l0 l1 k0 m0 m1).mono ?_
    rintro e w' ⟨rfl, hw⟩
    refine ⟨⟨_, _, _, rfl, by omega, by omega, by omega, by omega, ?_⟩, hw⟩
    rw [hx, hy]
    split <;> omega
  · obtain rfl : b2 = !b := by cases b <;> cases b2 <;> simp_all
    by_cases hlt : h < h2 ∨ (h = h2 ∧ l < l2)
    · refine (plus_less b h l h2 l2 w h0 h1 l0 l1 k0 m0 m1 hlt).mono ?_
      rintro e w' ⟨rfl, hw⟩
      refine ⟨⟨_, _, _, rfl, by omega, by omega, by omega, by omega, ?_⟩, hw⟩
      rw [hx, hy]
      cases b <;> simp <;> split <;> omega
    · refine (plus_more b h l h2 l2 w h0 h1 l0 l1 k0 k1 m0 m1 hlt).mono ?_
      rintro e w' ⟨rfl, hw⟩
      refine ⟨⟨_, _, _, rfl, by omega, by omega, by omega, by omega, ?_⟩, hw⟩
      rw [hx, hy]
      cases b <;> simp <;> split <;> omega

end Go.Proofs.Ytoodfkbciodapaa.Num
end

section
/- Contracts of num's 'fits' and what it catches. -/
namespace Go.Proofs.Ytoodfkbciodapaa.Num
open Go.RowKit
set_option linter.unusedVariables false
set_option linter.unusedSimpArgs false

theorem assert_large (w : World) : (Instr.typeAssert (.iface 71 (.agg #[])) 20 71 true).run Try.prog w = .ok (.tuple #[.agg #[], .bool true]) w := by kernel_rfl

theorem catch64_panicking (p q : Nat) (x0 : Int) (y0 : Bool) (w : World) (hp : w.cell? ⟨p, 0, none⟩ = some (.int .i64 x0)) (hz : w.frozen? ⟨p, 0, none⟩ = false) (hq : w.cell? ⟨q, 0, none⟩ = some (.bool y0)) (hzq : w.frozen? ⟨q, 0, none⟩ = false) (hpq : p ≠ q) (hpl : p < w.heap.size) (hql : q < w.heap.size) :
    CallsD Try.prog 63 #[.pointer (some ⟨p, 0, none⟩), .pointer (some ⟨q, 0, none⟩)] (.panicking LargeP) w fun e u' w' =>
      e = .returned (.tuple #[]) ∧ u' = .panicking [{ v := .iface 71 (.agg #[]), recovered := true }] ∧ w' = ((w.setCell ⟨p, 0, none⟩ (.int .i64 0)).setCell ⟨q, 0, none⟩ (.bool false)).alloc (.cells #[] 71) := by
  have ht := assert_large
  unfold LargeP
  refine callsD_of_wpS Try.func63 rfl fun c₀ cs hu => ?_
  apply wpS_seq
  apply wpS_region
  simp [wpOpsS, go_sem, recoverD, hu, Try.ntmps63, Exit.thenS]
  refine wpS_of_wp ?_
  go_wp2
  simp [bodyPostS, results, Try.results63]

theorem catch64_idle (p q : Value) (w : World) :
    CallsD Try.prog 63 #[p, q] .returning w fun e u' w' => e = .returned (.tuple #[]) ∧ u' = .returning ∧ w' = w := by
  refine callsD_of_wpS Try.func63 rfl fun c₀ cs hu => ?_
  apply wpS_seq
  apply wpS_region
  simp [wpOpsS, go_sem, recoverD, hu, Try.ntmps63, Exit.thenS]
  refine wpS_of_wp ?_
  go_wp2
  cases c₀
  simp_all [bodyPostS, results, Try.results63]

theorem run_makeFunc (fn : Fn) (first cap : Array Value) (w : World) : (Instr.makeFunc fn first cap).run Try.prog w = .ok (.func fn first cap) w := rfl

theorem fits64_ok (g : Nat) (first : Array Value) (n : Int) (w : World) (hcf : ∀ W, (callFunc g first).run Try.prog W = .ok (.enter g first) W) (h : ∀ W, Below w.heap.size w W → Calls Try.prog g first W fun e W' => e = .returned (.int .i64 n) ∧ Below W.heap.size W W') :
    Calls Try.prog 61 #[.func (.func g) first #[]] w fun e w' => e = .returned (.tuple #[.int .i64 n, .bool true]) ∧ Below w.heap.size w w' := by
  have hmf := run_makeFunc
  have H := Lib.hid h
  clear h
  go_enter_defers Try.func61, Try.ntmps61
  go_wp2_with fail
  refine (H.out _ (by repeat (first | exact Below.refl _ _ | with_reducible assumption | refine Below.alloc ?_ (by first | exact Nat.le_refl _ | (simp; done) | (simp; omega) | omega) _ | refine Below.setCell ?_ (by first | exact Nat.le_refl _ | (simp; done) | (simp; omega) | omega) _ | refine Below.drew ?_ | refine bdrewN ?_ _))).mono ?_
  rintro e w1 ⟨rfl, hb1⟩
  obtain ⟨hc, hf⟩ := bcell hb1
  have hz := hb1.size
  have c1 : w1.cell? ⟨w.heap.size, 0, none⟩ = some (.int .i64 0) := by rw [hc _ _ (by first | exact Nat.le_refl _ | (simp; done) | (simp; omega) | omega)]; simp [go_sem]
  have c2 : w1.cell? ⟨w.heap.size + 1, 0, none⟩ = some (.bool false) := by rw [hc _ _ (by first | exact Nat.le_refl _ | (simp; done) | (simp; omega) | omega)]; simp [go_sem]
  have f1 : w1.frozen? ⟨w.heap.size, 0, none⟩ = false := by rw [hf _ _ (by first | exact Nat.le_refl _ | (simp; done) | (simp; omega) | omega)]; simp [go_sem]
  have f2 : w1.frozen? ⟨w.heap.size + 1, 0, none⟩ = false := by rw [hf _ _ (by first | exact Nat.le_refl _ | (simp; done) | (simp; omega) | omega)]; simp [go_sem]
  have hb2 : Below w.heap.size w w1 := (((Below.refl _ _).alloc (Nat.le_refl _) _).alloc (by simp) _).trans (hb1.mono (by simp; omega))
  simp at hz
  clear hc hf hb1
  go_wp2
  refine leaves_cons (f := 63) (args := #[.pointer (some ⟨w.heap.size, 0, none⟩), .pointer (some ⟨w.heap.size + 1, 0, none⟩)]) (by simp) (by simp [go_sem]) ?_
  refine (catch64_idle _ _ _).mono ?_
  rintro e u' w'' ⟨rfl, rfl, rfl⟩
  simp [Leaves, settle, results, Try.results61, go_sem, c1, c2]
  exact (hb2.setCell (by simp) _).setCell (by simp) _

theorem fits64_no (g : Nat) (first : Array Value) (w : World) (hcf : ∀ W, (callFunc g first).run Try.prog W = .ok (.enter g first) W) (h : ∀ W, Below w.heap.size w W → Calls Try.prog g first W fun e W' => e = .panicked LargeP ∧ Below W.heap.size W W') :
    Calls Try.prog 61 #[.func (.func g) first #[]] w fun e w' => e = .returned (.tuple #[.int .i64 0, .bool false]) ∧ Below w.heap.size w w' := by
  have hmf := run_makeFunc
  have H := Lib.hid h
  clear h
  go_enter_defers Try.func61, Try.ntmps61
  go_wp2_with fail
  refine (H.out _ (by repeat (first | exact Below.refl _ _ | with_reducible assumption | refine Below.alloc ?_ (by first | exact Nat.le_refl _ | (simp; done) | (simp; omega) | omega) _ | refine Below.setCell ?_ (by first | exact Nat.le_refl _ | (simp; done) | (simp; omega) | omega) _ | refine Below.drew ?_ | refine bdrewN ?_ _))).mono ?_
  rintro e w1 ⟨rfl, hb1⟩
  obtain ⟨hc, hf⟩ := bcell hb1
  have hz := hb1.size
  have c1 : w1.cell? ⟨w.heap.size, 0, none⟩ = some (.int .i64 0) := by rw [hc _ _ (by first | exact Nat.le_refl _ | (simp; done) | (simp; omega) | omega)]; simp [go_sem]
  have c2 : w1.cell? ⟨w.heap.size + 1, 0, none⟩ = some (.bool false) := by rw [hc _ _ (by first | exact Nat.le_refl _ | (simp; done) | (simp; omega) | omega)]; simp [go_sem]
  have f1 : w1.frozen? ⟨w.heap.size, 0, none⟩ = false := by rw [hf _ _ (by first | exact Nat.le_refl _ | (simp; done) | (simp; omega) | omega)]; simp [go_sem]
  have f2 : w1.frozen? ⟨w.heap.size + 1, 0, none⟩ = false := by rw [hf _ _ (by first | exact Nat.le_refl _ | (simp; done) | (simp; omega) | omega)]; simp [go_sem]
  have hb2 : Below w.heap.size w w1 := (((Below.refl _ _).alloc (Nat.le_refl _) _).alloc (by simp) _).trans (hb1.mono (by simp; omega))
  simp at hz
  clear hc hf hb1
  go_wp2
  refine leaves_cons (f := 63) (args := #[.pointer (some ⟨w.heap.size, 0, none⟩), .pointer (some ⟨w.heap.size + 1, 0, none⟩)]) (by simp) (by simp [go_sem]) ?_
  refine (catch64_panicking _ _ 0 false _ c1 f1 c2 f2 (by omega) (by omega) (by omega)).mono ?_
  rintro e u' w'' ⟨rfl, rfl, rfl⟩
  have k1 : w.heap.size < w1.heap.size := by omega
  have k2 : w.heap.size + 1 < w1.heap.size := by omega
  simp [Leaves, settle, results, Try.results61, go_sem, c1, c2, k1, k2]
  exact ((hb2.setCell (by simp) _).setCell (by simp) _).alloc (by simp; omega) _

end Go.Proofs.Ytoodfkbciodapaa.Num
end

section
/- The same of 'fits' at rats. -/
namespace Go.Proofs.Ytoodfkbciodapaa.Num
open Go.RowKit
set_option linter.unusedVariables false
set_option linter.unusedSimpArgs false

theorem catchR_panicking (p q : Nat) (x0 x1 : Int) (y0 : Bool) (w : World) (hp : w.cell? ⟨p, 0, none⟩ = some (.int .i64 x0)) (hp1 : w.cell? ⟨p, 1, none⟩ = some (.int .i64 x1)) (hz1 : w.frozen? ⟨p, 1, none⟩ = false) (hz : w.frozen? ⟨p, 0, none⟩ = false) (hq : w.cell? ⟨q, 0, none⟩ = some (.bool y0)) (hzq : w.frozen? ⟨q, 0, none⟩ = false) (hpq : p ≠ q) (hpl : p < w.heap.size) (hql : q < w.heap.size) :
    CallsD Try.prog 49 #[.pointer (some ⟨p, 0, none⟩), .pointer (some ⟨q, 0, none⟩)] (.panicking LargeP) w fun e u' w' =>
      e = .returned (.tuple #[]) ∧ u' = .panicking [{ v := .iface 71 (.agg #[]), recovered := true }] ∧ w' = ((((w.setCell ⟨p, 0, none⟩ (.int .i64 0)).setCell ⟨p, 1, none⟩ (.int .i64 0)).setCell ⟨q, 0, none⟩ (.bool false)).alloc (.cells #[] 71)).alloc (.cells #[.int .i64 0, .int .i64 0] 24) := by
  have ht := assert_large
  unfold LargeP
  refine callsD_of_wpS Try.func49 rfl fun c₀ cs hu => ?_
  apply wpS_seq
  apply wpS_region
  simp [wpOpsS, go_sem, recoverD, hu, Try.ntmps49, Exit.thenS]
  refine wpS_of_wp ?_
  go_wp2
  simp [bodyPostS, results, Try.results49]

theorem catchR_idle (p q : Value) (w : World) :
    CallsD Try.prog 49 #[p, q] .returning w fun e u' w' => e = .returned (.tuple #[]) ∧ u' = .returning ∧ w' = w := by
  refine callsD_of_wpS Try.func49 rfl fun c₀ cs hu => ?_
  apply wpS_seq
  apply wpS_region
  simp [wpOpsS, go_sem, recoverD, hu, Try.ntmps49, Exit.thenS]
  refine wpS_of_wp ?_
  go_wp2
  cases c₀
  simp_all [bodyPostS, results, Try.results49]

theorem fitsR_ok (g : Nat) (first : Array Value) (n m : Int) (w : World) (hcf : ∀ W, (callFunc g first).run Try.prog W = .ok (.enter g first) W) (h : ∀ W, Below w.heap.size w W → Calls Try.prog g first W fun e W' => e = .returned (.agg #[.int .i64 n, .int .i64 m]) ∧ Below W.heap.size W W') :
    Calls Try.prog 27 #[.func (.func g) #[] first] w fun e w' => e = .returned (.tuple #[.agg #[.int .i64 n, .int .i64 m], .bool true]) ∧ Below w.heap.size w w' := by
  have hmf := run_makeFunc
  have H := Lib.hid h
  clear h
  go_enter_defers Try.func27, Try.ntmps27
  go_wp2_with fail
  refine (H.out _ (by repeat (first | exact Below.refl _ _ | with_reducible assumption | refine Below.alloc ?_ (by first | exact Nat.le_refl _ | (simp; done) | (simp; omega) | omega) _ | refine Below.setCell ?_ (by first | exact Nat.le_refl _ | (simp; done) | (simp; omega) | omega) _ | refine Below.drew ?_ | refine bdrewN ?_ _))).mono ?_
  rintro e w1 ⟨rfl, hb1⟩
  obtain ⟨hc, hf⟩ := bcell hb1
  have hz := hb1.size
  have c1 : w1.cell? ⟨w.heap.size, 0, none⟩ = some (.int .i64 0) := by rw [hc _ _ (by first | exact Nat.le_refl _ | (simp; done) | (simp; omega) | omega)]; simp [go_sem]
  have c11 : w1.cell? ⟨w.heap.size, 1, none⟩ = some (.int .i64 0) := by rw [hc _ _ (by first | exact Nat.le_refl _ | (simp; done) | (simp; omega) | omega)]; simp [go_sem]
  have f11 : w1.frozen? ⟨w.heap.size, 1, none⟩ = false := by rw [hf _ _ (by first | exact Nat.le_refl _ | (simp; done) | (simp; omega) | omega)]; simp [go_sem]
  have c2 : w1.cell? ⟨w.heap.size + 1, 0, none⟩ = some (.bool false) := by rw [hc _ _ (by first | exact Nat.le_refl _ | (simp; done) | (simp; omega) | omega)]; simp [go_sem]
  have f1 : w1.frozen? ⟨w.heap.size, 0, none⟩ = false := by rw [hf _ _ (by first | exact Nat.le_refl _ | (simp; done) | (simp; omega) | omega)]; simp [go_sem]
  have f2 : w1.frozen? ⟨w.heap.size + 1, 0, none⟩ = false := by rw [hf _ _ (by first | exact Nat.le_refl _ | (simp; done) | (simp; omega) | omega)]; simp [go_sem]
  have hb2 : Below w.heap.size w w1 := (((Below.refl _ _).alloc (Nat.le_refl _) _).alloc (by simp) _).trans (hb1.mono (by simp; omega))
  simp at hz
  clear hc hf hb1
  go_wp2
  refine leaves_cons (f := 49) (args := #[.pointer (some ⟨w.heap.size, 0, none⟩), .pointer (some ⟨w.heap.size + 1, 0, none⟩)]) (by simp) (by simp [go_sem]) ?_
  refine (catchR_idle _ _ _).mono ?_
  rintro e u' w'' ⟨rfl, rfl, rfl⟩
  simp [Leaves, settle, results, Try.results27, go_sem, c1, c11, c2]
  exact ((hb2.setCell (by simp) _).setCell (by simp) _).setCell (by simp) _

theorem fitsR_no (g : Nat) (first : Array Value) (w : World) (hcf : ∀ W, (callFunc g first).run Try.prog W = .ok (.enter g first) W) (h : ∀ W, Below w.heap.size w W → Calls Try.prog g first W fun e W' => e = .panicked LargeP ∧ Below W.heap.size W W') :
    Calls Try.prog 27 #[.func (.func g) #[] first] w fun e w' => e = .returned (.tuple #[.agg #[.int .i64 0, .int .i64 0], .bool false]) ∧ Below w.heap.size w w' := by
  have hmf := run_makeFunc
  have H := Lib.hid h
  clear h
  go_enter_defers Try.func27, Try.ntmps27
  go_wp2_with fail
  refine (H.out _ (by repeat (first | exact Below.refl _ _ | with_reducible assumption | refine Below.alloc ?_ (by first | exact Nat.le_refl _ | (simp; done) | (simp; omega) | omega) _ | refine Below.setCell ?_ (by first | exact Nat.le_refl _ | (simp; done) | (simp; omega) | omega) _ | refine Below.drew ?_ | refine bdrewN ?_ _))).mono ?_
  rintro e w1 ⟨rfl, hb1⟩
  obtain ⟨hc, hf⟩ := bcell hb1
  have hz := hb1.size
  have c1 : w1.cell? ⟨w.heap.size, 0, none⟩ = some (.int .i64 0) := by rw [hc _ _ (by first | exact Nat.le_refl _ | (simp; done) | (simp; omega) | omega)]; simp [go_sem]
  have c11 : w1.cell? ⟨w.heap.size, 1, none⟩ = some (.int .i64 0) := by rw [hc _ _ (by first | exact Nat.le_refl _ | (simp; done) | (simp; omega) | omega)]; simp [go_sem]
  have f11 : w1.frozen? ⟨w.heap.size, 1, none⟩ = false := by rw [hf _ _ (by first | exact Nat.le_refl _ | (simp; done) | (simp; omega) | omega)]; simp [go_sem]
  have c2 : w1.cell? ⟨w.heap.size + 1, 0, none⟩ = some (.bool false) := by rw [hc _ _ (by first | exact Nat.le_refl _ | (simp; done) | (simp; omega) | omega)]; simp [go_sem]
  have f1 : w1.frozen? ⟨w.heap.size, 0, none⟩ = false := by rw [hf _ _ (by first | exact Nat.le_refl _ | (simp; done) | (simp; omega) | omega)]; simp [go_sem]
  have f2 : w1.frozen? ⟨w.heap.size + 1, 0, none⟩ = false := by rw [hf _ _ (by first | exact Nat.le_refl _ | (simp; done) | (simp; omega) | omega)]; simp [go_sem]
  have hb2 : Below w.heap.size w w1 := (((Below.refl _ _).alloc (Nat.le_refl _) _).alloc (by simp) _).trans (hb1.mono (by simp; omega))
  simp at hz
  clear hc hf hb1
  go_wp2
  refine leaves_cons (f := 49) (args := #[.pointer (some ⟨w.heap.size, 0, none⟩), .pointer (some ⟨w.heap.size + 1, 0, none⟩)]) (by simp) (by simp [go_sem]) ?_
  refine (catchR_panicking _ _ 0 0 false _ c1 c11 f11 f1 c2 f2 (by omega) (by omega) (by omega)).mono ?_
  rintro e u' w'' ⟨rfl, rfl, rfl⟩
  have k1 : w.heap.size < w1.heap.size := by omega
  have k2 : w.heap.size + 1 < w1.heap.size := by omega
  simp [Leaves, settle, results, Try.results27, go_sem, c1, c11, c2, k1, k2]
  exact ((((hb2.setCell (by simp) _).setCell (by simp) _).setCell (by simp) _).alloc (by simp; omega) _).alloc (by simp; omega) _

end Go.Proofs.Ytoodfkbciodapaa.Num
end

section
/- Contracts of num: gcd, whole, Add, Sub, Mul, Neg, Gcd. -/
namespace Go.Proofs.Ytoodfkbciodapaa.Num
open Go.RowKit
set_option linter.unusedVariables false
set_option linter.unusedSimpArgs false

theorem gcd_step (a b : Int) (ha : 0 ≤ a) (hb : 0 ≤ b) : Int.gcd b (a % b) = Int.gcd a b := by
  obtain ⟨x, rfl⟩ := Int.eq_ofNat_of_zero_le ha
  obtain ⟨y, rfl⟩ := Int.eq_ofNat_of_zero_le hb
  rw [← Int.natCast_emod, Int.gcd_natCast_natCast, Int.gcd_natCast_natCast, Nat.gcd_comm x y, Nat.gcd_comm y (x % y)]
  exact (Nat.gcd_rec y x).symm

theorem gcd_any (a b : Int) (w : World) (ha : 0 ≤ a) (ha2 : a < 18446744073709551616) (hb : 0 ≤ b) (hb2 : b < 18446744073709551616) :
    Calls Try.prog 29 #[.int .u64 a, .int .u64 b] w fun e w' => e = .returned (.int .u64 (Int.gcd a b)) ∧ ∃ n, w' = w.drewN n := by
  go_enter Try.func29, Try.ntmps29
  go_wp2
  go_loopw [0, 1] (fun x y W => ∃ p q : Int, 0 ≤ p ∧ 0 ≤ q ∧ x = .int .u64 p ∧ y = .int .u64 q ∧ Hid (Int.gcd p q = Int.gcd a b) ∧ ∃ n, W = w.drewN n) (fun _ y _ => (intOf y).toNat)
  case atStart => exact ⟨a, b, ha, hb, rfl, rfl, rfl, 0, rfl⟩
  case round =>
    obtain ⟨p, q, hp, hq, rfl, rfl, hg, n, rfl⟩ := hrel
    by_cases h0 : 0 < q
    · have e1 : decide (0 < q) = true := decide_eq_true h0
      have hne : ¬ q = 0 := by omega
      have hs := Lib.hid (gcd_step p q hp hq)
      go_wp2
      go_quiet (fail)

      go_roundw
      case rel => exact ⟨_, _, _, _, _, _, _, _, ⟨q, p % q, hq, Int.emod_nonneg _ hne, rfl, rfl, Lib.hid (by rw [hs.out, hg.out]), n + nq, by simp [World.drewN, Nat.add_assoc]⟩, rfl⟩
      case measure =>
        have := Int.emod_lt_of_pos p h0
        have := Int.emod_nonneg p hne
        simp [intOf]; omega
    · have e1 : decide (0 < q) = false := decide_eq_false h0
      obtain rfl : q = 0 := by omega
      go_wp2
      go_ret
      exact ⟨ret_int (by rw [← hg.out, Int.gcd_zero_right]; omega), n, rfl⟩

/-- A number that fits, and whether. -/
def fitp (x : Int) : Int × Bool := if -9223372036854775808 ≤ x ∧ x < 9223372036854775808 then (x, true) else (0, false)

/-- 'int64' of a wide number. -/
theorem int64_fits {x : Int} {b h l} (hw : WV x b h l) (hx : -9223372036854775808 ≤ x ∧ x < 9223372036854775808) (w : World) :
    Calls Try.prog 50 #[W b h l] w fun e w' => e = .returned (.int .i64 x) ∧ w' = w.alloc (.cells #[.bool b, .int .u64 h, .int .u64 l] 52) := by
  obtain ⟨h0, h1, l0, l1, hv⟩ := hw
  have hh : h = 0 := by cases b <;> simp at hv <;> omega
  subst hh
  have := int64_yes b l w l0 (by cases b <;> simp at hv <;> omega) (by cases b <;> simp at hv <;> intros <;> first | rfl | omega)
  refine this.mono ?_
  rintro e w' ⟨rfl, hb⟩
  refine ⟨ret_int ?_, hb⟩
  rw [hv]; split <;> omega

theorem int64_large {x : Int} {b h l} (hw : WV x b h l) (hx : ¬ (-9223372036854775808 ≤ x ∧ x < 9223372036854775808)) (w : World) :
    Calls Try.prog 50 #[W b h l] w fun e w' => e = .panicked LargeP ∧ w' = w.alloc (.cells #[.bool b, .int .u64 h, .int .u64 l] 52) := by
  obtain ⟨h0, h1, l0, l1, hv⟩ := hw
  refine int64_no b h l w ?_
  cases b <;> simp at hv ⊢ <;> omega

theorem cf_int64 (args : Array Value) (w : World) : (callFunc 50 args).run Try.prog w = .ok (.enter 50 args) w := by kernel_rfl

theorem whole_any {x : Int} {b h l} (hw : WV x b h l) (w : World) :
    Calls Try.prog 44 #[W b h l] w fun e w' => e = .returned (.tuple #[.int .i64 (fitp x).1, .bool (fitp x).2]) ∧ Below w.heap.size w w' := by
  by_cases hx : -9223372036854775808 ≤ x ∧ x < 9223372036854775808
  · have H := fun W0 => fits64_ok 50 #[W b h l] x W0 (cf_int64 _) (fun W1 _ => (int64_fits hw hx W1).mono (by rintro e w' ⟨rfl, rfl⟩; exact ⟨rfl, (by repeat (first | exact Below.refl _ _ | with_reducible assumption | refine Below.alloc ?_ (by first | exact Nat.le_refl _ | (simp; done) | (simp; omega) | omega) _ | refine Below.setCell ?_ (by first | exact Nat.le_refl _ | (simp; done) | (simp; omega) | omega) _ | refine Below.drew ?_ | refine bdrewN ?_ _))⟩))
    have hf : fitp x = (x, true) := if_pos hx
    rw [hf]
    have H' := Lib.hid H
    clear H hf hx hw
    unfold W at *
    go_enter Try.func44, Try.ntmps44
    go_wp2_with fail
    refine (H'.out _).mono ?_
    rintro e w1 ⟨rfl, hb1⟩
    go_wp2
    go_ret2
    exact ⟨rfl, ((Below.refl _ _).alloc (Nat.le_refl _) _).trans (hb1.mono (by simp))⟩
  · have H := fun W0 => fits64_no 50 #[W b h l] W0 (cf_int64 _) (fun W1 _ => (int64_large hw hx W1).mono (by rintro e w' ⟨rfl, rfl⟩; exact ⟨rfl, (by repeat (first | exact Below.refl _ _ | with_reducible assumption | refine Below.alloc ?_ (by first | exact Nat.le_refl _ | (simp; done) | (simp; omega) | omega) _ | refine Below.setCell ?_ (by first | exact Nat.le_refl _ | (simp; done) | (simp; omega) | omega) _ | refine Below.drew ?_ | refine bdrewN ?_ _))⟩))
    have hf : fitp x = (0, false) := if_neg hx
    rw [hf]
    have H' := Lib.hid H
    clear H hf hx hw
    unfold W at *
    go_enter Try.func44, Try.ntmps44
    go_wp2_with fail
    refine (H'.out _).mono ?_
    rintro e w1 ⟨rfl, hb1⟩
    go_wp2
    go_ret2
    exact ⟨rfl, ((Below.refl _ _).alloc (Nat.le_refl _) _).trans (hb1.mono (by simp))⟩

end Go.Proofs.Ytoodfkbciodapaa.Num
end

section
/- Contracts of num: Add, Sub, Mul, Neg, Gcd, Cmp. -/
namespace Go.Proofs.Ytoodfkbciodapaa.Num
open Go.RowKit
set_option linter.unusedVariables false
set_option linter.unusedSimpArgs false

def In64 (a : Int) : Prop := -9223372036854775808 ≤ a ∧ a < 9223372036854775808

theorem wv_of {a : Int} (h : In64 a) : WV a (decide (a < 0)) 0 (sz a) := by
  obtain ⟨h1, h2⟩ := h
  unfold WV sz
  refine ⟨by omega, by omega, by split <;> omega, by split <;> omega, ?_⟩
  by_cases hn : a < 0
  · simp [hn]
  · simp [hn]

theorem wv_neg {x : Int} {b h l} (hw : WV x b h l) : WV (-x) (!b) h l := by
  obtain ⟨h0, h1, l0, l1, hv⟩ := hw
  refine ⟨h0, h1, l0, l1, ?_⟩
  rw [hv]; cases b <;> simp

theorem sz_mul (a b : Int) : (if sg a b = true then -(sz a * sz b) else sz a * sz b) = a * b := by
  unfold sz sg
  by_cases ha : a < 0 <;> by_cases hb : b < 0 <;> simp [ha, hb, Int.neg_mul, Int.mul_neg]

theorem wv_mul {a b : Int} (ha : In64 a) (hb : In64 b) : WV (a * b) (sg a b) (sz a * sz b / 18446744073709551616) (sz a * sz b % 18446744073709551616) := by
  have a0 := sz_nonneg a
  have b0 := sz_nonneg b
  have a1 := sz_le ha.1 ha.2
  have b1 := sz_le hb.1 hb.2
  have hm := mul_bound a0 a1 b0 b1
  refine ⟨by omega, by omega, by omega, by omega, ?_⟩
  rw [← sz_mul a b]
  split <;> omega

theorem wv_mul_small {a b : Int} (ha : In64 a) (hb : In64 b) : (sz a * sz b / 18446744073709551616) * 18446744073709551616 + sz a * sz b % 18446744073709551616 ≤ 85070591730234615865843651857942052864 := by
  have hm := mul_bound (sz_nonneg a) (sz_le ha.1 ha.2) (sz_nonneg b) (sz_le hb.1 hb.2)
  omega

theorem Add_any (a b : Int) (w : World) (ha : In64 a) (hb : In64 b) :
    Calls Try.prog 17 #[.int .i64 a, .int .i64 b] w fun e w' => e = .returned (.tuple #[.int .i64 (fitp (a + b)).1, .bool (fitp (a + b)).2]) ∧ Below w.heap.size w w' := by
  have o1 := fun W0 => of_any a W0 ha.1 ha.2
  have o2 := fun W0 => of_any b W0 hb.1 hb.2
  have s1 := sz_le ha.1 ha.2
  have s2 := sz_le hb.1 hb.2
  have p := fun W0 => plus_any a b _ _ _ _ _ _ W0 (wv_of ha) (wv_of hb) (by omega)
  have p' := Lib.hid p
  have o1' := Lib.hid o1
  have o2' := Lib.hid o2
  clear p o1 o2 s1 s2 ha hb
  go_enter Try.func17, Try.ntmps17
  go_wp2_with fail
  refine (o1'.out _).mono ?_
  rintro e w1 ⟨rfl, hb1⟩
  go_wp2_with fail
  refine (o2'.out _).mono ?_
  rintro e w2 ⟨rfl, hb2⟩
  go_wp2_with fail
  refine (p'.out _).mono ?_
  rintro e w3 ⟨⟨b3, h3, l3, rfl, hv⟩, hb3⟩
  have hv' := Lib.hid hv
  clear hv
  go_wp2_with fail
  refine (whole_any hv'.out _).mono ?_
  rintro e w4 ⟨rfl, hb4⟩
  go_wp2
  go_ret2
  exact ⟨rfl, hb1.trans ((hb2.mono hb1.size).trans ((hb3.mono (Nat.le_trans hb1.size hb2.size)).trans (hb4.mono (Nat.le_trans hb1.size (Nat.le_trans hb2.size hb3.size)))))⟩

theorem bthen {w w1 w2 : World} (h1 : Below w.heap.size w w1) (h2 : Below w1.heap.size w1 w2) : Below w.heap.size w w2 := h1.trans (h2.mono h1.size)

theorem bdrew (w : World) (n : Nat) : Below w.heap.size w (w.drewN n) := ⟨rfl, rfl, rfl, Nat.le_refl _, fun _ _ => rfl⟩

theorem Neg_any (a : Int) (w : World) (ha : In64 a) :
    Calls Try.prog 19 #[.int .i64 a] w fun e w' => e = .returned (.tuple #[.int .i64 (fitp (-a)).1, .bool (fitp (-a)).2]) ∧ Below w.heap.size w w' := by
  have o1' := Lib.hid (fun W0 => of_any a W0 ha.1 ha.2)
  have hv := Lib.hid (wv_neg (wv_of ha))
  clear ha
  go_enter Try.func19, Try.ntmps19
  go_wp2_with fail
  refine (o1'.out _).mono ?_
  rintro e w1 ⟨rfl, hb1⟩
  go_wp2_with fail
  refine (neg_any _ _ _ _).mono ?_
  rintro e w2 ⟨rfl, hw2⟩
  have hb2 : Below w1.heap.size w1 w2 := by rw [hw2]; exact (by repeat (first | exact Below.refl _ _ | with_reducible assumption | refine Below.alloc ?_ (by first | exact Nat.le_refl _ | (simp; done) | (simp; omega) | omega) _ | refine Below.setCell ?_ (by first | exact Nat.le_refl _ | (simp; done) | (simp; omega) | omega) _ | refine Below.drew ?_ | refine bdrewN ?_ _))
  clear hw2
  go_wp2_with fail
  refine (whole_any hv.out _).mono ?_
  rintro e w3 ⟨rfl, hb3⟩
  go_wp2
  go_ret2
  exact ⟨rfl, bthen (bthen hb1 hb2) hb3⟩

theorem gcd_le {a b : Int} (ha : 0 ≤ a) (hb : 0 ≤ b) (h : a < 18446744073709551616) (h2 : b < 18446744073709551616) : (Int.gcd a b : Int) < 18446744073709551616 := by
  by_cases h0 : a = 0
  · subst h0; rw [Int.gcd_zero_left]; omega
  · have := Int.gcd_le_natAbs_left (b := b) h0
    omega

theorem gcd_sz (a b : Int) : Int.gcd (sz a) (sz b) = Int.gcd a b := by
  unfold sz
  split <;> split <;> simp

theorem Gcd_any (a b : Int) (w : World) (ha : In64 a) (hb : In64 b) :
    Calls Try.prog 18 #[.int .i64 a, .int .i64 b] w fun e w' => e = .returned (.tuple #[.int .i64 (fitp (Int.gcd a b)).1, .bool (fitp (Int.gcd a b)).2]) ∧ Below w.heap.size w w' := by
  have o1' := Lib.hid (fun W0 => size_any a W0 ha.1 ha.2)
  have o2' := Lib.hid (fun W0 => size_any b W0 hb.1 hb.2)
  have s1 := sz_le ha.1 ha.2
  have s2 := sz_le hb.1 hb.2
  have s3 := sz_nonneg a
  have s4 := sz_nonneg b
  have g' := Lib.hid (fun W0 => gcd_any (sz a) (sz b) W0 s3 (by omega) s4 (by omega))
  have hg := gcd_le s3 s4 (by omega) (by omega)
  rw [gcd_sz] at g' hg
  have hv : WV (Int.gcd a b) false 0 (Int.gcd a b) := ⟨by omega, by omega, by omega, by omega, by simp⟩
  have hv' := Lib.hid hv
  clear s1 s2 s3 s4 hg ha hb hv
  go_enter Try.func18, Try.ntmps18
  go_wp2_with fail
  refine (o1'.out _).mono ?_
  rintro e w1 ⟨rfl, rfl⟩
  go_wp2_with fail
  refine (o2'.out _).mono ?_
  rintro e w1 ⟨rfl, rfl⟩
  go_wp2_with fail
  refine (g'.out _).mono ?_
  rintro e w1 ⟨rfl, n, rfl⟩
  go_wp2_with fail
  refine (whole_any hv'.out _).mono ?_
  rintro e w3 ⟨rfl, hb3⟩
  go_wp2
  go_ret2
  exact ⟨rfl, bthen (bdrew _ n) hb3⟩

theorem Whole_any (a : Int) (w : World) : Calls Try.prog 22 #[.int .i64 a] w fun e w' => e = .returned (.agg #[.int .i64 a, .int .i64 1]) ∧ Below w.heap.size w w' := by
  go_enter Try.func22, Try.ntmps22
  go_wp2
  exact bodyPost_ret (v := .agg #[.int .i64 a, .int .i64 1]) (by simp [results, Try.results22, go_sem]) rfl ⟨rfl, (by repeat (first | exact Below.refl _ _ | with_reducible assumption | refine Below.alloc ?_ (by first | exact Nat.le_refl _ | (simp; done) | (simp; omega) | omega) _ | refine Below.setCell ?_ (by first | exact Nat.le_refl _ | (simp; done) | (simp; omega) | omega) _ | refine Below.drew ?_ | refine bdrewN ?_ _))⟩

theorem right_any (p q : Int) (w : World) : Calls Try.prog 24 #[.agg #[.int .i64 p, .int .i64 q]] w fun e w' => e = .returned (.bool (decide (0 < q))) ∧ w' = w.alloc (.cells #[.int .i64 p, .int .i64 q] 24) := by
  go_enter Try.func24, Try.ntmps24
  go_wp2
  go_ret
  exact ⟨rfl, rfl⟩


def cmpI (x : Int) : Int := if x < 0 then -1 else if x = 0 then 0 else 1

theorem keepcell {W w1 : World} (hb : Below W.heap.size W w1) {b o : Nat} {v : Value} (h : W.cell? ⟨b, o, none⟩ = some v) : w1.cell? ⟨b, o, none⟩ = some v := by
  rw [hb.cell (p := ⟨b, o, none⟩) ?_, h]
  show b < W.heap.size
  by_cases hlt : b < W.heap.size
  · exact hlt
  · rw [World.cell?, Array.getElem?_eq_none (Nat.not_lt.1 hlt)] at h
    simp at h

theorem keepalloc {W : World} {o : Obj} {b i : Nat} {v : Value} (h : W.cell? ⟨b, i, none⟩ = some v) : (W.alloc o).cell? ⟨b, i, none⟩ = some v := by
  rw [World.cell?_alloc_some _ _ _ (by rw [h]; rfl), h]

theorem keepset {W : World} {g k b i : Nat} {u v : Value} (hb : b ≠ g) (h : W.cell? ⟨b, i, none⟩ = some v) : (W.setCell ⟨g, k, none⟩ u).cell? ⟨b, i, none⟩ = some v := by
  rw [World.cell?_setCell_far _ _ _ _ (Ne.symm hb), h]

theorem bgrow {W w1 : World} (hb : Below W.heap.size W w1) : (∀ b o, b < W.heap.size → w1.cell? ⟨b, o, none⟩ = W.cell? ⟨b, o, none⟩) ∧ (∀ b o, b < W.heap.size → w1.frozen? ⟨b, o, none⟩ = W.frozen? ⟨b, o, none⟩) ∧ ∀ b, b < W.heap.size → b < w1.heap.size :=
  ⟨(bcell hb).1, (bcell hb).2, fun b h => Nat.lt_of_lt_of_le h hb.size⟩

set_option maxHeartbeats 4000000 in
theorem Cmp_any (p q r s : Int) (w : World) (hp : In64 p) (hq : In64 q) (hr : In64 r) (hs : In64 s) :
    Calls Try.prog 14 #[.agg #[.int .i64 p, .int .i64 q], .agg #[.int .i64 r, .int .i64 s]] w fun e w' => e = .returned (.int .i64 (cmpI (p * s - r * q))) ∧ Below w.heap.size w w' := by
  have p1 := Lib.hid (fun W0 => product_any p s W0 hp.1 hp.2 hs.1 hs.2)
  have p2 := Lib.hid (fun W0 => product_any r q W0 hr.1 hr.2 hq.1 hq.2)
  have v1 := wv_mul hp hs
  have v2 := wv_neg (wv_mul hr hq)
  have m1 := wv_mul_small hp hs
  have m2 := wv_mul_small hr hq
  have pl := Lib.hid (fun W0 => plus_any _ _ _ _ _ _ _ _ W0 v1 v2 (by omega))
  clear v1 v2 m1 m2
  go_enter Try.func14, Try.ntmps14
  go_wp2
  go_region_held3 (fun w' => w'.cell? ⟨w.heap.size, 0, none⟩ = some (.int .i64 p) ∧ w'.cell? ⟨w.heap.size, 1, none⟩ = some (.int .i64 q) ∧ w'.cell? ⟨w.heap.size + 1, 0, none⟩ = some (.int .i64 r) ∧ w'.cell? ⟨w.heap.size + 1, 1, none⟩ = some (.int .i64 s))
    (first | (simp [go_sem]; done) | (go_split_ands; with_reducible exact ⟨keepcell (by with_reducible assumption) (by simp [go_sem]), keepcell (by with_reducible assumption) (by simp [go_sem]), keepcell (by with_reducible assumption) (by simp [go_sem]), keepcell (by with_reducible assumption) (by simp [go_sem])⟩) | (go_split_ands; with_reducible exact ⟨keepalloc (keepcell (by with_reducible assumption) (by simp [go_sem])), keepalloc (keepcell (by with_reducible assumption) (by simp [go_sem])), keepalloc (keepcell (by with_reducible assumption) (by simp [go_sem])), keepalloc (keepcell (by with_reducible assumption) (by simp [go_sem]))⟩) | (go_split_ands; with_reducible exact ⟨keepset (by omega) (keepset (by omega) (keepset (by omega) (keepcell (by with_reducible assumption) (by simp [go_sem])))), keepset (by omega) (keepset (by omega) (keepset (by omega) (keepcell (by with_reducible assumption) (by simp [go_sem])))), keepset (by omega) (keepset (by omega) (keepset (by omega) (keepcell (by with_reducible assumption) (by simp [go_sem])))), keepset (by omega) (keepset (by omega) (keepset (by omega) (keepcell (by with_reducible assumption) (by simp [go_sem]))))⟩))
    (first | ((with_reducible refine (p1.out _).mono ?_); rintro e w1 ⟨rfl, rfl⟩) | ((with_reducible refine (p2.out _).mono ?_); rintro e w2 ⟨rfl, rfl⟩) | ((with_reducible refine (neg_any _ _ _ _).mono ?_); rintro e w3 ⟨rfl, rfl⟩) | ((with_reducible refine (pl.out _).mono ?_); rintro e w4 ⟨⟨b3, h3, l3, rfl, hv⟩, hb4⟩; have hv' := Lib.hid hv; clear hv; obtain ⟨g1, g2, g3⟩ := bgrow hb4))
  all_goals
    have hbw : Below w.heap.size w w4 := Below.trans (by first | exact (by repeat (first | exact Below.refl _ _ | with_reducible assumption | refine Below.alloc ?_ (by first | exact Nat.le_refl _ | (simp; done) | (simp; omega) | omega) _ | refine Below.setCell ?_ (by first | exact Nat.le_refl _ | (simp; done) | (simp; omega) | omega) _ | refine Below.drew ?_ | refine bdrewN ?_ _)) | exact Below.drew (by repeat (first | exact Below.refl _ _ | with_reducible assumption | refine Below.alloc ?_ (by first | exact Nat.le_refl _ | (simp; done) | (simp; omega) | omega) _ | refine Below.setCell ?_ (by first | exact Nat.le_refl _ | (simp; done) | (simp; omega) | omega) _ | refine Below.drew ?_ | refine bdrewN ?_ _))) (hb4.mono (by first | exact Nat.le_refl _ | (simp; done) | (simp; omega) | omega))
    have hz : w.heap.size + 2 ≤ w4.heap.size := by have := hb4.size; simp at this; omega
    obtain ⟨h0, h1, l0, l1, hx⟩ := hv'.out
    have hx' := Lib.hid hx
    clear hx hb4 p1 p2 pl
    by_cases c1 : h3 = 0
    · subst c1
      by_cases c2 : l3 = 0
      · subst c2
        go_wp2
        go_ret
        exact ⟨ret_int (by have := hx'.out; unfold cmpI; cases b3 <;> simp at this <;> (rw [if_neg (by omega), if_pos (by omega)])), (by repeat (first | exact Below.refl _ _ | with_reducible assumption | refine Below.alloc ?_ (by first | exact Nat.le_refl _ | (simp; done) | (simp; omega) | omega) _ | refine Below.setCell ?_ (by first | exact Nat.le_refl _ | (simp; done) | (simp; omega) | omega) _ | refine Below.drew ?_ | refine bdrewN ?_ _))⟩
      · have e2 : (l3 == 0) = false := beq_eq_false_iff_ne.2 c2
        cases b3
        · go_wp2
          go_ret
          exact ⟨ret_int (by have := hx'.out; unfold cmpI; simp at this; rw [if_neg (by omega), if_neg (by omega)]), (by repeat (first | exact Below.refl _ _ | with_reducible assumption | refine Below.alloc ?_ (by first | exact Nat.le_refl _ | (simp; done) | (simp; omega) | omega) _ | refine Below.setCell ?_ (by first | exact Nat.le_refl _ | (simp; done) | (simp; omega) | omega) _ | refine Below.drew ?_ | refine bdrewN ?_ _))⟩
        · go_wp2
          go_ret
          exact ⟨ret_int (by have := hx'.out; unfold cmpI; simp at this; rw [if_pos (by omega)]), (by repeat (first | exact Below.refl _ _ | with_reducible assumption | refine Below.alloc ?_ (by first | exact Nat.le_refl _ | (simp; done) | (simp; omega) | omega) _ | refine Below.setCell ?_ (by first | exact Nat.le_refl _ | (simp; done) | (simp; omega) | omega) _ | refine Below.drew ?_ | refine bdrewN ?_ _))⟩
    · have e2 : (h3 == 0) = false := beq_eq_false_iff_ne.2 c1
      cases b3
      · go_wp2
        go_ret
        exact ⟨ret_int (by have := hx'.out; unfold cmpI; simp at this; rw [if_neg (by omega), if_neg (by omega)]), (by repeat (first | exact Below.refl _ _ | with_reducible assumption | refine Below.alloc ?_ (by first | exact Nat.le_refl _ | (simp; done) | (simp; omega) | omega) _ | refine Below.setCell ?_ (by first | exact Nat.le_refl _ | (simp; done) | (simp; omega) | omega) _ | refine Below.drew ?_ | refine bdrewN ?_ _))⟩
      · go_wp2
        go_ret
        exact ⟨ret_int (by have := hx'.out; unfold cmpI; simp at this; rw [if_pos (by omega)]), (by repeat (first | exact Below.refl _ _ | with_reducible assumption | refine Below.alloc ?_ (by first | exact Nat.le_refl _ | (simp; done) | (simp; omega) | omega) _ | refine Below.setCell ?_ (by first | exact Nat.le_refl _ | (simp; done) | (simp; omega) | omega) _ | refine Below.drew ?_ | refine bdrewN ?_ _))⟩

end Go.Proofs.Ytoodfkbciodapaa.Num
end

section
/- Steps through a region of open order, by an operation's place. -/
namespace Go.Proofs.Ytoodfkbciodapaa
section
variable {P : Program} {Q : Exit → Act → World → Prop} {md : Region.Mode} {S : World → Prop}
def Tk (P : Program) (md : Region.Mode) (L : List Oper) (i : Nat) (o : Oper) (Q : Exit → Act → World → Prop) (S : World → Prop) : Prop :=
  ∀ {fuel : Nat} {listed : Array Bool} {a : Act} {w : World} (v : Value), (Region.noSelect L.toArray && Region.free md L.toArray listed i && (Region.ready md L.toArray listed).contains i) = true → Region.wanted o (yielded L.toArray a.tmps) = true → (∀ c a w, Q (.panic c) (a.put o.dst v) w → Q (.panic c) a w) → (∀ w, S w → (execOp a.eval o).run P w = .ok (.value v) w) → S w → wpAnyH P md L.toArray Q S fuel (listed.setIfInBounds i true) (a.put o.dst v) w → wpAnyH P md L.toArray Q S (fuel + 1) listed a w
def Un (P : Program) (md : Region.Mode) (L : List Oper) (i : Nat) (o : Oper) (Q : Exit → Act → World → Prop) (S : World → Prop) : Prop :=
  ∀ {fuel : Nat} {listed : Array Bool} {a : Act} {w : World}, (Region.noSelect L.toArray && Region.free md L.toArray listed i && (Region.ready md L.toArray listed).contains i) = true → Region.wanted o (yielded L.toArray a.tmps) = false → (∀ c a w, Q (.panic c) (a.put o.dst undef) w → Q (.panic c) a w) → S w → wpAnyH P md L.toArray Q S fuel (listed.setIfInBounds i true) (a.put o.dst undef) w → wpAnyH P md L.toArray Q S (fuel + 1) listed a w
def Ac (P : Program) (md : Region.Mode) (L : List Oper) (i : Nat) (o : Oper) (Q : Exit → Act → World → Prop) (S : World → Prop) : Prop :=
  ∀ {fuel : Nat} {listed : Array Bool} {a : Act} {w : World} {rs : List Nat}, (∀ K' : Act → World → Prop, Shut (∀ a w, S w → (S w → wpAnyH P md L.toArray Q S fuel (listed.setIfInBounds i true) a w) → K' a w) → if Region.wanted o (yielded L.toArray a.tmps) = true then Oper.wp P o a w K' Q else K' (a.put o.dst undef) w) → AllReadyH P md L.toArray Q S fuel listed a w rs → AllReadyH P md L.toArray Q S fuel listed a w (i :: rs)
theorem Tk.mk {L : List Oper} {i : Nat} {o : Oper} (h : L.toArray[i]? = some o) : Tk P md L i o Q S := fun v hb hw hQ hv hS H => by
  simp only [Bool.and_eq_true] at hb
  exact wpAnyH_take h hb.1.1 hb.1.2 hb.2 hQ (.inl ⟨hw, hv⟩) hS H
theorem Un.mk {L : List Oper} {i : Nat} {o : Oper} (h : L.toArray[i]? = some o) : Un P md L i o Q S := fun hb hw hQ hS H => by
  simp only [Bool.and_eq_true] at hb
  exact wpAnyH_take h hb.1.1 hb.1.2 hb.2 hQ (.inr ⟨hw, rfl⟩) hS H
theorem Ac.mk {L : List Oper} {i : Nat} {o : Oper} (h : L.toArray[i]? = some o) : Ac P md L i o Q S := fun H hs => AllReadyH.cons h H hs
variable {x0 x1 x2 x3 x4 x5 x6 x7 x8 x9 x10 x11 x12 x13 x14 x15 x16 x17 x18 x19 x20 x21 x22 x23 x24 x25 x26 x27 x28 x29 x30 x31 x32 x33 x34 x35 x36 x37 x38 x39 x40 x41 x42 x43 x44 x45 x46 x47 : Oper} {l : List Oper}
theorem tk0 : Tk P md (x0 :: l) 0 x0 Q S := Tk.mk rfl
theorem tk1 : Tk P md (x0 :: x1 :: l) 1 x1 Q S := Tk.mk rfl
theorem ac1 : Ac P md (x0 :: x1 :: l) 1 x1 Q S := Ac.mk rfl
theorem tk2 : Tk P md (x0 :: x1 :: x2 :: l) 2 x2 Q S := Tk.mk rfl
theorem un2 : Un P md (x0 :: x1 :: x2 :: l) 2 x2 Q S := Un.mk rfl
theorem ac2 : Ac P md (x0 :: x1 :: x2 :: l) 2 x2 Q S := Ac.mk rfl
theorem tk3 : Tk P md (x0 :: x1 :: x2 :: x3 :: l) 3 x3 Q S := Tk.mk rfl
theorem un3 : Un P md (x0 :: x1 :: x2 :: x3 :: l) 3 x3 Q S := Un.mk rfl
theorem ac3 : Ac P md (x0 :: x1 :: x2 :: x3 :: l) 3 x3 Q S := Ac.mk rfl
theorem tk4 : Tk P md (x0 :: x1 :: x2 :: x3 :: x4 :: l) 4 x4 Q S := Tk.mk rfl
theorem un4 : Un P md (x0 :: x1 :: x2 :: x3 :: x4 :: l) 4 x4 Q S := Un.mk rfl
theorem ac4 : Ac P md (x0 :: x1 :: x2 :: x3 :: x4 :: l) 4 x4 Q S := Ac.mk rfl
theorem tk5 : Tk P md (x0 :: x1 :: x2 :: x3 :: x4 :: x5 :: l) 5 x5 Q S := Tk.mk rfl
theorem un5 : Un P md (x0 :: x1 :: x2 :: x3 :: x4 :: x5 :: l) 5 x5 Q S := Un.mk rfl
theorem ac5 : Ac P md (x0 :: x1 :: x2 :: x3 :: x4 :: x5 :: l) 5 x5 Q S := Ac.mk rfl
theorem tk6 : Tk P md (x0 :: x1 :: x2 :: x3 :: x4 :: x5 :: x6 :: l) 6 x6 Q S := Tk.mk rfl
theorem un6 : Un P md (x0 :: x1 :: x2 :: x3 :: x4 :: x5 :: x6 :: l) 6 x6 Q S := Un.mk rfl
theorem ac6 : Ac P md (x0 :: x1 :: x2 :: x3 :: x4 :: x5 :: x6 :: l) 6 x6 Q S := Ac.mk rfl
theorem tk7 : Tk P md (x0 :: x1 :: x2 :: x3 :: x4 :: x5 :: x6 :: x7 :: l) 7 x7 Q S := Tk.mk rfl
theorem ac7 : Ac P md (x0 :: x1 :: x2 :: x3 :: x4 :: x5 :: x6 :: x7 :: l) 7 x7 Q S := Ac.mk rfl
theorem tk8 : Tk P md (x0 :: x1 :: x2 :: x3 :: x4 :: x5 :: x6 :: x7 :: x8 :: l) 8 x8 Q S := Tk.mk rfl
theorem ac8 : Ac P md (x0 :: x1 :: x2 :: x3 :: x4 :: x5 :: x6 :: x7 :: x8 :: l) 8 x8 Q S := Ac.mk rfl
theorem tk9 : Tk P md (x0 :: x1 :: x2 :: x3 :: x4 :: x5 :: x6 :: x7 :: x8 :: x9 :: l) 9 x9 Q S := Tk.mk rfl
theorem ac9 : Ac P md (x0 :: x1 :: x2 :: x3 :: x4 :: x5 :: x6 :: x7 :: x8 :: x9 :: l) 9 x9 Q S := Ac.mk rfl
theorem tk10 : Tk P md (x0 :: x1 :: x2 :: x3 :: x4 :: x5 :: x6 :: x7 :: x8 :: x9 :: x10 :: l) 10 x10 Q S := Tk.mk rfl
theorem un10 : Un P md (x0 :: x1 :: x2 :: x3 :: x4 :: x5 :: x6 :: x7 :: x8 :: x9 :: x10 :: l) 10 x10 Q S := Un.mk rfl
theorem ac10 : Ac P md (x0 :: x1 :: x2 :: x3 :: x4 :: x5 :: x6 :: x7 :: x8 :: x9 :: x10 :: l) 10 x10 Q S := Ac.mk rfl
theorem tk11 : Tk P md (x0 :: x1 :: x2 :: x3 :: x4 :: x5 :: x6 :: x7 :: x8 :: x9 :: x10 :: x11 :: l) 11 x11 Q S := Tk.mk rfl
theorem un11 : Un P md (x0 :: x1 :: x2 :: x3 :: x4 :: x5 :: x6 :: x7 :: x8 :: x9 :: x10 :: x11 :: l) 11 x11 Q S := Un.mk rfl
theorem ac11 : Ac P md (x0 :: x1 :: x2 :: x3 :: x4 :: x5 :: x6 :: x7 :: x8 :: x9 :: x10 :: x11 :: l) 11 x11 Q S := Ac.mk rfl
theorem tk12 : Tk P md (x0 :: x1 :: x2 :: x3 :: x4 :: x5 :: x6 :: x7 :: x8 :: x9 :: x10 :: x11 :: x12 :: l) 12 x12 Q S := Tk.mk rfl
theorem ac12 : Ac P md (x0 :: x1 :: x2 :: x3 :: x4 :: x5 :: x6 :: x7 :: x8 :: x9 :: x10 :: x11 :: x12 :: l) 12 x12 Q S := Ac.mk rfl
theorem tk13 : Tk P md (x0 :: x1 :: x2 :: x3 :: x4 :: x5 :: x6 :: x7 :: x8 :: x9 :: x10 :: x11 :: x12 :: x13 :: l) 13 x13 Q S := Tk.mk rfl
theorem un13 : Un P md (x0 :: x1 :: x2 :: x3 :: x4 :: x5 :: x6 :: x7 :: x8 :: x9 :: x10 :: x11 :: x12 :: x13 :: l) 13 x13 Q S := Un.mk rfl
theorem ac13 : Ac P md (x0 :: x1 :: x2 :: x3 :: x4 :: x5 :: x6 :: x7 :: x8 :: x9 :: x10 :: x11 :: x12 :: x13 :: l) 13 x13 Q S := Ac.mk rfl
theorem tk14 : Tk P md (x0 :: x1 :: x2 :: x3 :: x4 :: x5 :: x6 :: x7 :: x8 :: x9 :: x10 :: x11 :: x12 :: x13 :: x14 :: l) 14 x14 Q S := Tk.mk rfl
theorem un14 : Un P md (x0 :: x1 :: x2 :: x3 :: x4 :: x5 :: x6 :: x7 :: x8 :: x9 :: x10 :: x11 :: x12 :: x13 :: x14 :: l) 14 x14 Q S := Un.mk rfl
theorem ac14 : Ac P md (x0 :: x1 :: x2 :: x3 :: x4 :: x5 :: x6 :: x7 :: x8 :: x9 :: x10 :: x11 :: x12 :: x13 :: x14 :: l) 14 x14 Q S := Ac.mk rfl
theorem tk15 : Tk P md (x0 :: x1 :: x2 :: x3 :: x4 :: x5 :: x6 :: x7 :: x8 :: x9 :: x10 :: x11 :: x12 :: x13 :: x14 :: x15 :: l) 15 x15 Q S := Tk.mk rfl
theorem un15 : Un P md (x0 :: x1 :: x2 :: x3 :: x4 :: x5 :: x6 :: x7 :: x8 :: x9 :: x10 :: x11 :: x12 :: x13 :: x14 :: x15 :: l) 15 x15 Q S := Un.mk rfl
theorem ac15 : Ac P md (x0 :: x1 :: x2 :: x3 :: x4 :: x5 :: x6 :: x7 :: x8 :: x9 :: x10 :: x11 :: x12 :: x13 :: x14 :: x15 :: l) 15 x15 Q S := Ac.mk rfl
theorem tk16 : Tk P md (x0 :: x1 :: x2 :: x3 :: x4 :: x5 :: x6 :: x7 :: x8 :: x9 :: x10 :: x11 :: x12 :: x13 :: x14 :: x15 :: x16 :: l) 16 x16 Q S := Tk.mk rfl
theorem un16 : Un P md (x0 :: x1 :: x2 :: x3 :: x4 :: x5 :: x6 :: x7 :: x8 :: x9 :: x10 :: x11 :: x12 :: x13 :: x14 :: x15 :: x16 :: l) 16 x16 Q S := Un.mk rfl
theorem ac16 : Ac P md (x0 :: x1 :: x2 :: x3 :: x4 :: x5 :: x6 :: x7 :: x8 :: x9 :: x10 :: x11 :: x12 :: x13 :: x14 :: x15 :: x16 :: l) 16 x16 Q S := Ac.mk rfl
theorem tk17 : Tk P md (x0 :: x1 :: x2 :: x3 :: x4 :: x5 :: x6 :: x7 :: x8 :: x9 :: x10 :: x11 :: x12 :: x13 :: x14 :: x15 :: x16 :: x17 :: l) 17 x17 Q S := Tk.mk rfl
theorem un17 : Un P md (x0 :: x1 :: x2 :: x3 :: x4 :: x5 :: x6 :: x7 :: x8 :: x9 :: x10 :: x11 :: x12 :: x13 :: x14 :: x15 :: x16 :: x17 :: l) 17 x17 Q S := Un.mk rfl
theorem tk18 : Tk P md (x0 :: x1 :: x2 :: x3 :: x4 :: x5 :: x6 :: x7 :: x8 :: x9 :: x10 :: x11 :: x12 :: x13 :: x14 :: x15 :: x16 :: x17 :: x18 :: l) 18 x18 Q S := Tk.mk rfl
theorem un18 : Un P md (x0 :: x1 :: x2 :: x3 :: x4 :: x5 :: x6 :: x7 :: x8 :: x9 :: x10 :: x11 :: x12 :: x13 :: x14 :: x15 :: x16 :: x17 :: x18 :: l) 18 x18 Q S := Un.mk rfl
theorem tk19 : Tk P md (x0 :: x1 :: x2 :: x3 :: x4 :: x5 :: x6 :: x7 :: x8 :: x9 :: x10 :: x11 :: x12 :: x13 :: x14 :: x15 :: x16 :: x17 :: x18 :: x19 :: l) 19 x19 Q S := Tk.mk rfl
theorem un19 : Un P md (x0 :: x1 :: x2 :: x3 :: x4 :: x5 :: x6 :: x7 :: x8 :: x9 :: x10 :: x11 :: x12 :: x13 :: x14 :: x15 :: x16 :: x17 :: x18 :: x19 :: l) 19 x19 Q S := Un.mk rfl
theorem tk20 : Tk P md (x0 :: x1 :: x2 :: x3 :: x4 :: x5 :: x6 :: x7 :: x8 :: x9 :: x10 :: x11 :: x12 :: x13 :: x14 :: x15 :: x16 :: x17 :: x18 :: x19 :: x20 :: l) 20 x20 Q S := Tk.mk rfl
theorem un20 : Un P md (x0 :: x1 :: x2 :: x3 :: x4 :: x5 :: x6 :: x7 :: x8 :: x9 :: x10 :: x11 :: x12 :: x13 :: x14 :: x15 :: x16 :: x17 :: x18 :: x19 :: x20 :: l) 20 x20 Q S := Un.mk rfl
theorem ac20 : Ac P md (x0 :: x1 :: x2 :: x3 :: x4 :: x5 :: x6 :: x7 :: x8 :: x9 :: x10 :: x11 :: x12 :: x13 :: x14 :: x15 :: x16 :: x17 :: x18 :: x19 :: x20 :: l) 20 x20 Q S := Ac.mk rfl
theorem ac21 : Ac P md (x0 :: x1 :: x2 :: x3 :: x4 :: x5 :: x6 :: x7 :: x8 :: x9 :: x10 :: x11 :: x12 :: x13 :: x14 :: x15 :: x16 :: x17 :: x18 :: x19 :: x20 :: x21 :: l) 21 x21 Q S := Ac.mk rfl
theorem tk22 : Tk P md (x0 :: x1 :: x2 :: x3 :: x4 :: x5 :: x6 :: x7 :: x8 :: x9 :: x10 :: x11 :: x12 :: x13 :: x14 :: x15 :: x16 :: x17 :: x18 :: x19 :: x20 :: x21 :: x22 :: l) 22 x22 Q S := Tk.mk rfl
theorem un22 : Un P md (x0 :: x1 :: x2 :: x3 :: x4 :: x5 :: x6 :: x7 :: x8 :: x9 :: x10 :: x11 :: x12 :: x13 :: x14 :: x15 :: x16 :: x17 :: x18 :: x19 :: x20 :: x21 :: x22 :: l) 22 x22 Q S := Un.mk rfl
theorem ac22 : Ac P md (x0 :: x1 :: x2 :: x3 :: x4 :: x5 :: x6 :: x7 :: x8 :: x9 :: x10 :: x11 :: x12 :: x13 :: x14 :: x15 :: x16 :: x17 :: x18 :: x19 :: x20 :: x21 :: x22 :: l) 22 x22 Q S := Ac.mk rfl
theorem tk23 : Tk P md (x0 :: x1 :: x2 :: x3 :: x4 :: x5 :: x6 :: x7 :: x8 :: x9 :: x10 :: x11 :: x12 :: x13 :: x14 :: x15 :: x16 :: x17 :: x18 :: x19 :: x20 :: x21 :: x22 :: x23 :: l) 23 x23 Q S := Tk.mk rfl
theorem tk24 : Tk P md (x0 :: x1 :: x2 :: x3 :: x4 :: x5 :: x6 :: x7 :: x8 :: x9 :: x10 :: x11 :: x12 :: x13 :: x14 :: x15 :: x16 :: x17 :: x18 :: x19 :: x20 :: x21 :: x22 :: x23 :: x24 :: l) 24 x24 Q S := Tk.mk rfl
end
end Go.Proofs.Ytoodfkbciodapaa
end

section
/- Contracts of num: rat, Make and its closure. -/
namespace Go.Proofs.Ytoodfkbciodapaa.Num
open Go.RowKit
set_option linter.unusedVariables false
set_option linter.unusedSimpArgs false

@[reducible, go_sem] def RV (p q : Int) : Value := .agg #[.int .i64 p, .int .i64 q]

set_option maxHeartbeats 1000000 in
theorem rat_ok {x y : Int} {b h l b2 h2 l2} (hw : WV x b h l) (hw2 : WV y b2 h2 l2) (hx : In64 x) (hy : In64 y) (w : World) :
    Calls Try.prog 32 #[W b h l, W b2 h2 l2] w fun e w' => e = .returned (RV x y) ∧ Below w.heap.size w w' := by
  have p1 := Lib.hid (fun W0 => int64_fits hw hx W0)
  have p2 := Lib.hid (fun W0 => int64_fits hw2 hy W0)
  clear hw hw2 hx hy
  unfold W at *
  go_enter Try.func32, Try.ntmps32
  go_wp2
  go_region_held3 (fun w' => w'.cell? ⟨w.heap.size, 0, none⟩ = some (.bool b) ∧ w'.cell? ⟨w.heap.size, 1, none⟩ = some (.int .u64 h) ∧ w'.cell? ⟨w.heap.size, 2, none⟩ = some (.int .u64 l) ∧ w'.cell? ⟨w.heap.size + 1, 0, none⟩ = some (.bool b2) ∧ w'.cell? ⟨w.heap.size + 1, 1, none⟩ = some (.int .u64 h2) ∧ w'.cell? ⟨w.heap.size + 1, 2, none⟩ = some (.int .u64 l2))
    (first | (simp [go_sem]; done))
    (first | ((with_reducible refine (p1.out _).mono ?_); rintro e w1 ⟨rfl, rfl⟩) | ((with_reducible refine (p2.out _).mono ?_); rintro e w2 ⟨rfl, rfl⟩))
  go_wp2
  exact bodyPost_ret (v := RV x y) (by simp [results, Try.results32, go_sem, RV]) rfl ⟨rfl, (by repeat (first | exact Below.refl _ _ | with_reducible assumption | refine Below.alloc ?_ (by first | exact Nat.le_refl _ | (simp; done) | (simp; omega) | omega) _ | refine Below.setCell ?_ (by first | exact Nat.le_refl _ | (simp; done) | (simp; omega) | omega) _ | refine Below.drew ?_ | refine bdrewN ?_ _))⟩

set_option maxHeartbeats 1000000 in
theorem rat_no1 {x : Int} {b h l b2 h2 l2} (hw : WV x b h l) (hx : ¬ In64 x) (w : World) :
    Calls Try.prog 32 #[W b h l, W b2 h2 l2] w fun e w' => e = .panicked LargeP ∧ Below w.heap.size w w' := by
  have p1 := Lib.hid (fun W0 => int64_large hw hx W0)
  clear hw hx
  unfold W at *
  go_enter Try.func32, Try.ntmps32
  go_wp2
  refine wp_region_held_drew (S := (fun w' => w'.cell? ⟨w.heap.size, 0, none⟩ = some (.bool b) ∧ w'.cell? ⟨w.heap.size, 1, none⟩ = some (.int .u64 h) ∧ w'.cell? ⟨w.heap.size, 2, none⟩ = some (.int .u64 l) ∧ w'.cell? ⟨w.heap.size + 1, 0, none⟩ = some (.bool b2) ∧ w'.cell? ⟨w.heap.size + 1, 1, none⟩ = some (.int .u64 h2) ∧ w'.cell? ⟨w.heap.size + 1, 2, none⟩ = some (.int .u64 l2))) (by kernel_rfl) ?_ (fun hHeld => ?_)
  · (simp [go_sem]; done)
  iterate 2 ((first | refine tk0 ?_ (by decide +kernel) (by rfl) (fun _ _ _ => id) ?_ (by assumption) ?_ | refine tk2 ?_ (by decide +kernel) (by rfl) (fun _ _ _ => id) ?_ (by assumption) ?_); (rotate_left 1); (focus (intro w_ hSw; (try dsimp only at hSw); go_simp; all_goals (with_reducible rfl); done)); focus try simp only [Act.put, List.setIfInBounds_toArray, List.set_cons_zero, List.set_cons_succ])
  refine wpAnyH_ready (rs := [1]) (by kernel_rfl) (by simp) (ac1 (fun K hK => ?_) (AllReadyH.nil))
  focus go_simp
  · (refine (p1.out _).mono ?_; rintro e w1 ⟨rfl, rfl⟩; exact ⟨rfl, rfl, by first | exact (by repeat (first | exact Below.refl _ _ | with_reducible assumption | refine Below.alloc ?_ (by first | exact Nat.le_refl _ | (simp; done) | (simp; omega) | omega) _ | refine Below.setCell ?_ (by first | exact Nat.le_refl _ | (simp; done) | (simp; omega) | omega) _ | refine Below.drew ?_ | refine bdrewN ?_ _)) | exact Below.drew (by repeat (first | exact Below.refl _ _ | with_reducible assumption | refine Below.alloc ?_ (by first | exact Nat.le_refl _ | (simp; done) | (simp; omega) | omega) _ | refine Below.setCell ?_ (by first | exact Nat.le_refl _ | (simp; done) | (simp; omega) | omega) _ | refine Below.drew ?_ | refine bdrewN ?_ _))⟩)

set_option maxHeartbeats 1000000 in
theorem rat_no2 {x y : Int} {b h l b2 h2 l2} (hw : WV x b h l) (hw2 : WV y b2 h2 l2) (hx : In64 x) (hy : ¬ In64 y) (w : World) :
    Calls Try.prog 32 #[W b h l, W b2 h2 l2] w fun e w' => e = .panicked LargeP ∧ Below w.heap.size w w' := by
  have p1 := Lib.hid (fun W0 => int64_fits hw hx W0)
  have p2 := Lib.hid (fun W0 => int64_large hw2 hy W0)
  clear hw hw2 hx hy
  unfold W at *
  go_enter Try.func32, Try.ntmps32
  go_wp2
  refine wp_region_held_drew (S := (fun w' => w'.cell? ⟨w.heap.size, 0, none⟩ = some (.bool b) ∧ w'.cell? ⟨w.heap.size, 1, none⟩ = some (.int .u64 h) ∧ w'.cell? ⟨w.heap.size, 2, none⟩ = some (.int .u64 l) ∧ w'.cell? ⟨w.heap.size + 1, 0, none⟩ = some (.bool b2) ∧ w'.cell? ⟨w.heap.size + 1, 1, none⟩ = some (.int .u64 h2) ∧ w'.cell? ⟨w.heap.size + 1, 2, none⟩ = some (.int .u64 l2))) (by kernel_rfl) ?_ (fun hHeld => ?_)
  · (simp [go_sem]; done)
  iterate 2 ((first | refine tk0 ?_ (by decide +kernel) (by rfl) (fun _ _ _ => id) ?_ (by assumption) ?_ | refine tk2 ?_ (by decide +kernel) (by rfl) (fun _ _ _ => id) ?_ (by assumption) ?_); (rotate_left 1); (focus (intro w_ hSw; (try dsimp only at hSw); go_simp; all_goals (with_reducible rfl); done)); focus try simp only [Act.put, List.setIfInBounds_toArray, List.set_cons_zero, List.set_cons_succ])
  refine wpAnyH_ready (rs := [1]) (by kernel_rfl) (by simp) (ac1 (fun K hK => ?_) (AllReadyH.nil))
  focus go_simp
  focus (refine (p1.out _).mono ?_; rintro e w1 ⟨rfl, rfl⟩)
  focus try simp only []
  refine hK.out _ _ ?_ (fun hHeld => ?_)
  · (simp [go_sem]; done)
  focus clear hK K; try simp only [Act.put, List.setIfInBounds_toArray, List.set_cons_zero, List.set_cons_succ]
  refine wpAnyH_ready (rs := [3]) (by kernel_rfl) (by simp) (ac3 (fun K hK => ?_) (AllReadyH.nil))
  focus go_simp
  · (refine (p2.out _).mono ?_; rintro e w1 ⟨rfl, rfl⟩; exact ⟨rfl, rfl, by first | exact (by repeat (first | exact Below.refl _ _ | with_reducible assumption | refine Below.alloc ?_ (by first | exact Nat.le_refl _ | (simp; done) | (simp; omega) | omega) _ | refine Below.setCell ?_ (by first | exact Nat.le_refl _ | (simp; done) | (simp; omega) | omega) _ | refine Below.drew ?_ | refine bdrewN ?_ _)) | exact Below.drew (by repeat (first | exact Below.refl _ _ | with_reducible assumption | refine Below.alloc ?_ (by first | exact Nat.le_refl _ | (simp; done) | (simp; omega) | omega) _ | refine Below.setCell ?_ (by first | exact Nat.le_refl _ | (simp; done) | (simp; omega) | omega) _ | refine Below.drew ?_ | refine bdrewN ?_ _))⟩)

theorem rat_no {x y : Int} {b h l b2 h2 l2} (hw : WV x b h l) (hw2 : WV y b2 h2 l2) (hxy : ¬ (In64 x ∧ In64 y)) (w : World) :
    Calls Try.prog 32 #[W b h l, W b2 h2 l2] w fun e w' => e = .panicked LargeP ∧ Below w.heap.size w w' := by
  by_cases hx : In64 x
  · exact rat_no2 hw hw2 hx (fun hy => hxy ⟨hx, hy⟩) w
  · exact rat_no1 hw hx w
end Go.Proofs.Ytoodfkbciodapaa.Num
end

section
/- Contracts of num: Make and its closure. -/
namespace Go.Proofs.Ytoodfkbciodapaa.Num
open Go.RowKit
set_option linter.unusedVariables false
set_option linter.unusedSimpArgs false

/-- A rat in lowest terms, of any numbers. -/
def lowP (p q : Int) : Int := if sg p q = true then -(sz p / Int.gcd p q) else sz p / Int.gcd p q
def lowQ (p q : Int) : Int := sz q / Int.gcd p q

theorem gcd_pos {p q : Int} (hq : q ≠ 0) : 0 < (Int.gcd p q : Int) := by
  have := Int.gcd_pos_of_ne_zero_right p hq
  omega

theorem wv_low1 (p q : Int) (hp : In64 p) (hq : q ≠ 0) : WV (lowP p q) (sg p q) 0 (sz p / Int.gcd p q) := by
  have g0 := gcd_pos (p := p) hq
  have a1 := sz_nonneg p
  have a2 := sz_le hp.1 hp.2
  have := Int.ediv_nonneg a1 (Int.le_of_lt g0)
  have := Int.ediv_le_self (Int.gcd p q : Int) a1
  refine ⟨by omega, by omega, by omega, by omega, ?_⟩
  unfold lowP
  simp

theorem wv_low2 (p q : Int) (hp : In64 q) (hq : q ≠ 0) : WV (lowQ p q) false 0 (sz q / Int.gcd p q) := by
  have g0 := gcd_pos (p := p) hq
  have a1 := sz_nonneg q
  have a2 := sz_le hp.1 hp.2
  have := Int.ediv_nonneg a1 (Int.le_of_lt g0)
  have := Int.ediv_le_self (Int.gcd p q : Int) a1
  refine ⟨by omega, by omega, by omega, by omega, ?_⟩
  unfold lowQ
  simp

theorem sg_spell (p q : Int) : (!(decide (p < 0) == decide (q < 0))) = sg p q := by
  unfold sg
  cases decide (p < 0) <;> cases decide (q < 0) <;> rfl
theorem div_spell {a g : Int} (ha : 0 ≤ a) (ha2 : a < 18446744073709551616) (hg : 0 < g) : IntKind.u64.wrap (a.tdiv g) = a / g := by
  rw [Int.tdiv_eq_ediv_of_nonneg ha, IntKind.wrap_u64]
  have := Int.ediv_nonneg ha (Int.le_of_lt hg)
  have := Int.ediv_le_self g ha
  omega

set_option maxHeartbeats 1000000 in
theorem make1_ok (p q : Int) (b c : Nat) (w : World) (hp : In64 p) (hq : In64 q) (h0 : q ≠ 0) (hb : w.cell? ⟨b, 0, none⟩ = some (.int .i64 p)) (hc : w.cell? ⟨c, 0, none⟩ = some (.int .i64 q)) (bl : b < w.heap.size) (cl : c < w.heap.size)
    (hP : In64 (lowP p q)) (hQ : In64 (lowQ p q)) :
    Calls Try.prog 43 #[.pointer (some ⟨b, 0, none⟩), .pointer (some ⟨c, 0, none⟩)] w fun e w' => e = .returned (RV (lowP p q) (lowQ p q)) ∧ Below w.heap.size w w' := by
  have s1 := Lib.hid (fun W0 => size_any p W0 hp.1 hp.2)
  have s2 := Lib.hid (fun W0 => size_any q W0 hq.1 hq.2)
  have a1 := sz_nonneg p
  have a2 := sz_le hp.1 hp.2
  have b1 := sz_nonneg q
  have b2 := sz_le hq.1 hq.2
  have gg := Lib.hid (fun W0 => gcd_any (sz p) (sz q) W0 a1 (by omega) b1 (by omega))
  have g0 := gcd_pos (p := p) h0
  have g1 := gcd_le a1 b1 (by omega) (by omega)
  rw [gcd_sz] at gg g1
  have hn : ¬ (Int.gcd p q : Int) = 0 := by omega
  have hn2 : ((Int.gcd p q : Int) == 0) = false := beq_eq_false_iff_ne.2 hn
  have rr := Lib.hid (fun W0 => rat_ok (wv_low1 p q hp h0) (wv_low2 p q hq h0) hP hQ W0)
  have hsg := sg_spell p q
  have hd1 := div_spell (g := (Int.gcd p q : Int)) a1 (by omega) g0
  have hd2 := div_spell (g := (Int.gcd p q : Int)) b1 (by omega) g0
  clear hp hq h0 hP hQ
  generalize (Int.gcd p q : Int) = g at *
  go_enter Try.func43, Try.ntmps43
  go_wp2
  refine wp_region_held_drew (S := (fun w' => w'.cell? ⟨b, 0, none⟩ = some (.int .i64 p) ∧ w'.cell? ⟨c, 0, none⟩ = some (.int .i64 q))) (by kernel_rfl) ?_ (fun hHeld => ?_)
  · (simp [go_sem, hb, hc, bl, cl]; done)
  iterate 2 ((first | refine tk0 ?_ (by decide +kernel) (by rfl) (fun _ _ _ => id) ?_ (by assumption) ?_ | refine tk2 ?_ (by decide +kernel) (by rfl) (fun _ _ _ => id) ?_ (by assumption) ?_); (rotate_left 1); (focus (intro w_ hSw; (try dsimp only at hSw); go_simp; all_goals (with_reducible rfl); done)); focus try simp only [Act.put, List.setIfInBounds_toArray, List.set_cons_zero, List.set_cons_succ])
  refine wpAnyH_ready (rs := [1]) (by kernel_rfl) (by simp) (ac1 (fun K hK => ?_) (AllReadyH.nil))
  focus go_simp
  focus (refine (s1.out _).mono ?_; rintro e w1 ⟨rfl, rfl⟩)
  focus try simp only []
  refine hK.out _ _ ?_ (fun hHeld => ?_)
  · (simp [go_sem, hb, hc, bl, cl]; done)
  focus clear hK K; try simp only [Act.put, List.setIfInBounds_toArray, List.set_cons_zero, List.set_cons_succ]
  refine wpAnyH_ready (rs := [3]) (by kernel_rfl) (by simp) (ac3 (fun K hK => ?_) (AllReadyH.nil))
  focus go_simp
  focus (refine (s2.out _).mono ?_; rintro e w1 ⟨rfl, rfl⟩)
  focus try simp only []
  refine hK.out _ _ ?_ (fun hHeld => ?_)
  · (simp [go_sem, hb, hc, bl, cl]; done)
  focus clear hK K; try simp only [Act.put, List.setIfInBounds_toArray, List.set_cons_zero, List.set_cons_succ]
  refine wpAnyH_ready (rs := [4]) (by kernel_rfl) (by simp) (ac4 (fun K hK => ?_) (AllReadyH.nil))
  focus go_simp
  focus (refine (gg.out _).mono ?_; rintro e w1 ⟨rfl, n, rfl⟩)
  focus try simp only []
  refine hK.out _ _ ?_ (fun hHeld => ?_)
  · (simp [go_sem, hb, hc, bl, cl]; done)
  focus clear hK K; try simp only [Act.put, List.setIfInBounds_toArray, List.set_cons_zero, List.set_cons_succ]
  refine tk5 ?_ (by kernel_rfl) (by rfl) (fun _ _ _ => id) ?_ (by assumption) ?_; rotate_left 1; (focus (intro w_ hSw; (try dsimp only at hSw); go_simp; all_goals (with_reducible rfl); done)); focus try simp only [Act.put, List.setIfInBounds_toArray, List.set_cons_zero, List.set_cons_succ]
  refine wpAnyH_done (by kernel_rfl) ?_ _; rotate_left 1
  go_wp2
  refine wp_region_held_drew (S := (fun w' => w'.cell? ⟨b, 0, none⟩ = some (.int .i64 p) ∧ w'.cell? ⟨c, 0, none⟩ = some (.int .i64 q))) (by kernel_rfl) ?_ (fun hHeld => ?_)
  · (first | (simp [go_sem, hb, hc, bl, cl]; done) | exact ⟨keepcell (by assumption) (by simp [go_sem, hb, hc, bl, cl]), keepcell (by assumption) (by simp [go_sem, hb, hc, bl, cl])⟩ | exact ⟨keepset (by omega) (keepset (by omega) (keepcell (by assumption) (by simp [go_sem, hb, hc, bl, cl]))), keepset (by omega) (keepset (by omega) (keepcell (by assumption) (by simp [go_sem, hb, hc, bl, cl])))⟩)
  iterate 9 ((first | refine tk0 ?_ (by decide +kernel) (by rfl) (fun _ _ _ => id) ?_ (by assumption) ?_ | refine tk1 ?_ (by decide +kernel) (by rfl) (fun _ _ _ => id) ?_ (by assumption) ?_ | refine tk2 ?_ (by decide +kernel) (by rfl) (fun _ _ _ => id) ?_ (by assumption) ?_ | refine tk3 ?_ (by decide +kernel) (by rfl) (fun _ _ _ => id) ?_ (by assumption) ?_ | refine tk4 ?_ (by decide +kernel) (by rfl) (fun _ _ _ => id) ?_ (by assumption) ?_ | refine tk5 ?_ (by decide +kernel) (by rfl) (fun _ _ _ => id) ?_ (by assumption) ?_ | refine tk7 ?_ (by decide +kernel) (by rfl) (fun _ _ _ => id) ?_ (by assumption) ?_ | refine tk10 ?_ (by decide +kernel) (by rfl) (fun _ _ _ => id) ?_ (by assumption) ?_ | refine tk12 ?_ (by decide +kernel) (by rfl) (fun _ _ _ => id) ?_ (by assumption) ?_); (rotate_left 1); (focus (intro w_ hSw; (try dsimp only at hSw); go_simp; all_goals (with_reducible rfl); done)); focus try simp only [Act.put, List.setIfInBounds_toArray, List.set_cons_zero, List.set_cons_succ])
  refine wpAnyH_ready (rs := [6]) (by kernel_rfl) (by simp) (ac6 (fun K hK => ?_) (AllReadyH.nil))
  focus go_simp
  focus (refine (s1.out _).mono ?_; rintro e w1 ⟨rfl, rfl⟩)
  focus try simp only []
  refine hK.out _ _ ?_ (fun hHeld => ?_)
  · (first | (simp [go_sem, hb, hc, bl, cl]; done) | exact ⟨keepcell (by assumption) (by simp [go_sem, hb, hc, bl, cl]), keepcell (by assumption) (by simp [go_sem, hb, hc, bl, cl])⟩ | exact ⟨keepset (by omega) (keepset (by omega) (keepcell (by assumption) (by simp [go_sem, hb, hc, bl, cl]))), keepset (by omega) (keepset (by omega) (keepcell (by assumption) (by simp [go_sem, hb, hc, bl, cl])))⟩)
  focus clear hK K; try simp only [Act.put, List.setIfInBounds_toArray, List.set_cons_zero, List.set_cons_succ]
  iterate 2 ((first | refine tk8 ?_ (by decide +kernel) (by rfl) (fun _ _ _ => id) ?_ (by assumption) ?_ | refine tk9 ?_ (by decide +kernel) (by rfl) (fun _ _ _ => id) ?_ (by assumption) ?_); (rotate_left 1); (focus (intro w_ hSw; (try dsimp only at hSw); go_simp; all_goals (with_reducible rfl); done)); focus try simp only [Act.put, List.setIfInBounds_toArray, List.set_cons_zero, List.set_cons_succ])
  refine wpAnyH_ready (rs := [11]) (by kernel_rfl) (by simp) (ac11 (fun K hK => ?_) (AllReadyH.nil))
  focus go_simp
  focus (refine (s2.out _).mono ?_; rintro e w1 ⟨rfl, rfl⟩)
  focus try simp only []
  refine hK.out _ _ ?_ (fun hHeld => ?_)
  · (first | (simp [go_sem, hb, hc, bl, cl]; done) | exact ⟨keepcell (by assumption) (by simp [go_sem, hb, hc, bl, cl]), keepcell (by assumption) (by simp [go_sem, hb, hc, bl, cl])⟩ | exact ⟨keepset (by omega) (keepset (by omega) (keepcell (by assumption) (by simp [go_sem, hb, hc, bl, cl]))), keepset (by omega) (keepset (by omega) (keepcell (by assumption) (by simp [go_sem, hb, hc, bl, cl])))⟩)
  focus clear hK K; try simp only [Act.put, List.setIfInBounds_toArray, List.set_cons_zero, List.set_cons_succ]
  iterate 2 ((first | refine tk13 ?_ (by decide +kernel) (by rfl) (fun _ _ _ => id) ?_ (by assumption) ?_ | refine tk14 ?_ (by decide +kernel) (by rfl) (fun _ _ _ => id) ?_ (by assumption) ?_); (rotate_left 1); (focus (intro w_ hSw; (try dsimp only at hSw); go_simp; all_goals (with_reducible rfl); done)); focus try simp only [Act.put, List.setIfInBounds_toArray, List.set_cons_zero, List.set_cons_succ])
  refine wpAnyH_ready (rs := [15]) (by kernel_rfl) (by simp) (ac15 (fun K hK => ?_) (AllReadyH.nil))
  focus go_simp
  focus (refine (rr.out _).mono ?_; rintro e w1 ⟨rfl, hb1⟩; obtain ⟨g1, g2, g3⟩ := bgrow hb1)
  focus try simp only []
  refine hK.out _ _ ?_ (fun hHeld => ?_)
  · (first | (simp [go_sem, hb, hc, bl, cl]; done) | exact ⟨keepcell (by assumption) (by simp [go_sem, hb, hc, bl, cl]), keepcell (by assumption) (by simp [go_sem, hb, hc, bl, cl])⟩ | exact ⟨keepset (by omega) (keepset (by omega) (keepcell (by assumption) (by simp [go_sem, hb, hc, bl, cl]))), keepset (by omega) (keepset (by omega) (keepcell (by assumption) (by simp [go_sem, hb, hc, bl, cl])))⟩)
  focus clear hK K; try simp only [Act.put, List.setIfInBounds_toArray, List.set_cons_zero, List.set_cons_succ]
  refine wpAnyH_ready (rs := [16]) (by kernel_rfl) (by simp) (ac16 (fun K hK => ?_) (AllReadyH.nil))
  focus go_simp
  refine hK.out _ _ ?_ (fun hHeld => ?_)
  · (first | (simp [go_sem, hb, hc, bl, cl]; done) | exact ⟨keepcell (by assumption) (by simp [go_sem, hb, hc, bl, cl]), keepcell (by assumption) (by simp [go_sem, hb, hc, bl, cl])⟩ | exact ⟨keepset (by omega) (keepset (by omega) (keepcell (by assumption) (by simp [go_sem, hb, hc, bl, cl]))), keepset (by omega) (keepset (by omega) (keepcell (by assumption) (by simp [go_sem, hb, hc, bl, cl])))⟩)
  focus clear hK K; try simp only [Act.put, List.setIfInBounds_toArray, List.set_cons_zero, List.set_cons_succ]
  refine wpAnyH_done (by kernel_rfl) ?_ _; rotate_left 1
  go_wp2
  have hbw : Below w.heap.size w w1 := Below.trans (b := (w.alloc (Obj.cells #[Value.int IntKind.i64 0, Value.int IntKind.i64 0] 24)).drewN (1 + n + 1)) (by repeat (first | exact Below.refl _ _ | with_reducible assumption | refine Below.alloc ?_ (by first | exact Nat.le_refl _ | (simp; done) | (simp; omega) | omega) _ | refine Below.setCell ?_ (by first | exact Nat.le_refl _ | (simp; done) | (simp; omega) | omega) _ | refine Below.drew ?_ | refine bdrewN ?_ _)) (hb1.mono (by first | exact Nat.le_refl _ | (simp; done) | (simp; omega) | omega))
  have k0 : w1.cell? ⟨w.heap.size, 0, none⟩ = some (.int .i64 0) := by rw [g1 _ _ (by first | exact Nat.le_refl _ | (simp; done) | (simp; omega) | omega)]; simp [go_sem]
  have k1 : w1.cell? ⟨w.heap.size, 1, none⟩ = some (.int .i64 0) := by rw [g1 _ _ (by first | exact Nat.le_refl _ | (simp; done) | (simp; omega) | omega)]; simp [go_sem]
  exact bodyPost_ret (v := RV (lowP p q) (lowQ p q)) (by simp [results, Try.results43, go_sem, k0, k1]) rfl ⟨rfl, (by repeat (first | exact Below.refl _ _ | with_reducible assumption | refine Below.alloc ?_ (by first | exact Nat.le_refl _ | (simp; done) | (simp; omega) | omega) _ | refine Below.setCell ?_ (by first | exact Nat.le_refl _ | (simp; done) | (simp; omega) | omega) _ | refine Below.drew ?_ | refine bdrewN ?_ _))⟩
set_option maxHeartbeats 1000000 in
theorem make1_no (p q : Int) (b c : Nat) (w : World) (hp : In64 p) (hq : In64 q) (h0 : q ≠ 0) (hb : w.cell? ⟨b, 0, none⟩ = some (.int .i64 p)) (hc : w.cell? ⟨c, 0, none⟩ = some (.int .i64 q)) (bl : b < w.heap.size) (cl : c < w.heap.size)
    (hPQ : ¬ (In64 (lowP p q) ∧ In64 (lowQ p q))) :
    Calls Try.prog 43 #[.pointer (some ⟨b, 0, none⟩), .pointer (some ⟨c, 0, none⟩)] w fun e w' => e = .panicked LargeP ∧ Below w.heap.size w w' := by
  have s1 := Lib.hid (fun W0 => size_any p W0 hp.1 hp.2)
  have s2 := Lib.hid (fun W0 => size_any q W0 hq.1 hq.2)
  have a1 := sz_nonneg p
  have a2 := sz_le hp.1 hp.2
  have b1 := sz_nonneg q
  have b2 := sz_le hq.1 hq.2
  have gg := Lib.hid (fun W0 => gcd_any (sz p) (sz q) W0 a1 (by omega) b1 (by omega))
  have g0 := gcd_pos (p := p) h0
  have g1 := gcd_le a1 b1 (by omega) (by omega)
  rw [gcd_sz] at gg g1
  have hn : ¬ (Int.gcd p q : Int) = 0 := by omega
  have hn2 : ((Int.gcd p q : Int) == 0) = false := beq_eq_false_iff_ne.2 hn
  have rr := Lib.hid (fun W0 => rat_no (wv_low1 p q hp h0) (wv_low2 p q hq h0) hPQ W0)
  have hsg := sg_spell p q
  have hd1 := div_spell (g := (Int.gcd p q : Int)) a1 (by omega) g0
  have hd2 := div_spell (g := (Int.gcd p q : Int)) b1 (by omega) g0
  clear hp hq h0 hPQ
  generalize (Int.gcd p q : Int) = g at *
  go_enter Try.func43, Try.ntmps43
  go_wp2
  refine wp_region_held_drew (S := (fun w' => w'.cell? ⟨b, 0, none⟩ = some (.int .i64 p) ∧ w'.cell? ⟨c, 0, none⟩ = some (.int .i64 q))) (by kernel_rfl) ?_ (fun hHeld => ?_)
  · (simp [go_sem, hb, hc, bl, cl]; done)
  iterate 2 ((first | refine tk0 ?_ (by decide +kernel) (by rfl) (fun _ _ _ => id) ?_ (by assumption) ?_ | refine tk2 ?_ (by decide +kernel) (by rfl) (fun _ _ _ => id) ?_ (by assumption) ?_); (rotate_left 1); (focus (intro w_ hSw; (try dsimp only at hSw); go_simp; all_goals (with_reducible rfl); done)); focus try simp only [Act.put, List.setIfInBounds_toArray, List.set_cons_zero, List.set_cons_succ])
  refine wpAnyH_ready (rs := [1]) (by kernel_rfl) (by simp) (ac1 (fun K hK => ?_) (AllReadyH.nil))
  focus go_simp
  focus (refine (s1.out _).mono ?_; rintro e w1 ⟨rfl, rfl⟩)
  focus try simp only []
  refine hK.out _ _ ?_ (fun hHeld => ?_)
  · (simp [go_sem, hb, hc, bl, cl]; done)
  focus clear hK K; try simp only [Act.put, List.setIfInBounds_toArray, List.set_cons_zero, List.set_cons_succ]
  refine wpAnyH_ready (rs := [3]) (by kernel_rfl) (by simp) (ac3 (fun K hK => ?_) (AllReadyH.nil))
  focus go_simp
  focus (refine (s2.out _).mono ?_; rintro e w1 ⟨rfl, rfl⟩)
  focus try simp only []
  refine hK.out _ _ ?_ (fun hHeld => ?_)
  · (simp [go_sem, hb, hc, bl, cl]; done)
  focus clear hK K; try simp only [Act.put, List.setIfInBounds_toArray, List.set_cons_zero, List.set_cons_succ]
  refine wpAnyH_ready (rs := [4]) (by kernel_rfl) (by simp) (ac4 (fun K hK => ?_) (AllReadyH.nil))
  focus go_simp
  focus (refine (gg.out _).mono ?_; rintro e w1 ⟨rfl, n, rfl⟩)
  focus try simp only []
  refine hK.out _ _ ?_ (fun hHeld => ?_)
  · (simp [go_sem, hb, hc, bl, cl]; done)
  focus clear hK K; try simp only [Act.put, List.setIfInBounds_toArray, List.set_cons_zero, List.set_cons_succ]
  refine tk5 ?_ (by kernel_rfl) (by rfl) (fun _ _ _ => id) ?_ (by assumption) ?_; rotate_left 1; (focus (intro w_ hSw; (try dsimp only at hSw); go_simp; all_goals (with_reducible rfl); done)); focus try simp only [Act.put, List.setIfInBounds_toArray, List.set_cons_zero, List.set_cons_succ]
  refine wpAnyH_done (by kernel_rfl) ?_ _; rotate_left 1
  go_wp2
  refine wp_region_held_drew (S := (fun w' => w'.cell? ⟨b, 0, none⟩ = some (.int .i64 p) ∧ w'.cell? ⟨c, 0, none⟩ = some (.int .i64 q))) (by kernel_rfl) ?_ (fun hHeld => ?_)
  · (first | (simp [go_sem, hb, hc, bl, cl]; done) | exact ⟨keepcell (by assumption) (by simp [go_sem, hb, hc, bl, cl]), keepcell (by assumption) (by simp [go_sem, hb, hc, bl, cl])⟩ | exact ⟨keepset (by omega) (keepset (by omega) (keepcell (by assumption) (by simp [go_sem, hb, hc, bl, cl]))), keepset (by omega) (keepset (by omega) (keepcell (by assumption) (by simp [go_sem, hb, hc, bl, cl])))⟩)
  iterate 9 ((first | refine tk0 ?_ (by decide +kernel) (by rfl) (fun _ _ _ => id) ?_ (by assumption) ?_ | refine tk1 ?_ (by decide +kernel) (by rfl) (fun _ _ _ => id) ?_ (by assumption) ?_ | refine tk2 ?_ (by decide +kernel) (by rfl) (fun _ _ _ => id) ?_ (by assumption) ?_ | refine tk3 ?_ (by decide +kernel) (by rfl) (fun _ _ _ => id) ?_ (by assumption) ?_ | refine tk4 ?_ (by decide +kernel) (by rfl) (fun _ _ _ => id) ?_ (by assumption) ?_ | refine tk5 ?_ (by decide +kernel) (by rfl) (fun _ _ _ => id) ?_ (by assumption) ?_ | refine tk7 ?_ (by decide +kernel) (by rfl) (fun _ _ _ => id) ?_ (by assumption) ?_ | refine tk10 ?_ (by decide +kernel) (by rfl) (fun _ _ _ => id) ?_ (by assumption) ?_ | refine tk12 ?_ (by decide +kernel) (by rfl) (fun _ _ _ => id) ?_ (by assumption) ?_); (rotate_left 1); (focus (intro w_ hSw; (try dsimp only at hSw); go_simp; all_goals (with_reducible rfl); done)); focus try simp only [Act.put, List.setIfInBounds_toArray, List.set_cons_zero, List.set_cons_succ])
  refine wpAnyH_ready (rs := [6]) (by kernel_rfl) (by simp) (ac6 (fun K hK => ?_) (AllReadyH.nil))
  focus go_simp
  focus (refine (s1.out _).mono ?_; rintro e w1 ⟨rfl, rfl⟩)
  focus try simp only []
  refine hK.out _ _ ?_ (fun hHeld => ?_)
  · (first | (simp [go_sem, hb, hc, bl, cl]; done) | exact ⟨keepcell (by assumption) (by simp [go_sem, hb, hc, bl, cl]), keepcell (by assumption) (by simp [go_sem, hb, hc, bl, cl])⟩ | exact ⟨keepset (by omega) (keepset (by omega) (keepcell (by assumption) (by simp [go_sem, hb, hc, bl, cl]))), keepset (by omega) (keepset (by omega) (keepcell (by assumption) (by simp [go_sem, hb, hc, bl, cl])))⟩)
  focus clear hK K; try simp only [Act.put, List.setIfInBounds_toArray, List.set_cons_zero, List.set_cons_succ]
  iterate 2 ((first | refine tk8 ?_ (by decide +kernel) (by rfl) (fun _ _ _ => id) ?_ (by assumption) ?_ | refine tk9 ?_ (by decide +kernel) (by rfl) (fun _ _ _ => id) ?_ (by assumption) ?_); (rotate_left 1); (focus (intro w_ hSw; (try dsimp only at hSw); go_simp; all_goals (with_reducible rfl); done)); focus try simp only [Act.put, List.setIfInBounds_toArray, List.set_cons_zero, List.set_cons_succ])
  refine wpAnyH_ready (rs := [11]) (by kernel_rfl) (by simp) (ac11 (fun K hK => ?_) (AllReadyH.nil))
  focus go_simp
  focus (refine (s2.out _).mono ?_; rintro e w1 ⟨rfl, rfl⟩)
  focus try simp only []
  refine hK.out _ _ ?_ (fun hHeld => ?_)
  · (first | (simp [go_sem, hb, hc, bl, cl]; done) | exact ⟨keepcell (by assumption) (by simp [go_sem, hb, hc, bl, cl]), keepcell (by assumption) (by simp [go_sem, hb, hc, bl, cl])⟩ | exact ⟨keepset (by omega) (keepset (by omega) (keepcell (by assumption) (by simp [go_sem, hb, hc, bl, cl]))), keepset (by omega) (keepset (by omega) (keepcell (by assumption) (by simp [go_sem, hb, hc, bl, cl])))⟩)
  focus clear hK K; try simp only [Act.put, List.setIfInBounds_toArray, List.set_cons_zero, List.set_cons_succ]
  iterate 2 ((first | refine tk13 ?_ (by decide +kernel) (by rfl) (fun _ _ _ => id) ?_ (by assumption) ?_ | refine tk14 ?_ (by decide +kernel) (by rfl) (fun _ _ _ => id) ?_ (by assumption) ?_); (rotate_left 1); (focus (intro w_ hSw; (try dsimp only at hSw); go_simp; all_goals (with_reducible rfl); done)); focus try simp only [Act.put, List.setIfInBounds_toArray, List.set_cons_zero, List.set_cons_succ])
  refine wpAnyH_ready (rs := [15]) (by kernel_rfl) (by simp) (ac15 (fun K hK => ?_) (AllReadyH.nil))
  focus go_simp
  · (refine (rr.out _).mono ?_; rintro e w1 ⟨rfl, hb1⟩; exact ⟨rfl, rfl, Below.trans (b := (w.alloc (Obj.cells #[Value.int IntKind.i64 0, Value.int IntKind.i64 0] 24)).drewN (1 + n + 1)) (by repeat (first | exact Below.refl _ _ | with_reducible assumption | refine Below.alloc ?_ (by first | exact Nat.le_refl _ | (simp; done) | (simp; omega) | omega) _ | refine Below.setCell ?_ (by first | exact Nat.le_refl _ | (simp; done) | (simp; omega) | omega) _ | refine Below.drew ?_ | refine bdrewN ?_ _)) (hb1.mono (by first | exact Nat.le_refl _ | (simp; done) | (simp; omega) | omega))⟩)

end Go.Proofs.Ytoodfkbciodapaa.Num
end

section
/- Contracts of num: Make. -/
namespace Go.Proofs.Ytoodfkbciodapaa.Num
open Go.RowKit
set_option linter.unusedVariables false
set_option linter.unusedSimpArgs false

instance (a : Int) : Decidable (In64 a) := inferInstanceAs (Decidable (_ ∧ _))

/-- The right rat that is p / q, and whether it fits. -/
def mk (p q : Int) : Int × Int × Bool := if q = 0 then (0, 0, false) else if In64 (lowP p q) ∧ In64 (lowQ p q) then (lowP p q, lowQ p q, true) else (0, 0, false)

@[reducible, go_sem] def RB (r : Int × Int × Bool) : Value := .tuple #[RV r.1 r.2.1, .bool r.2.2]

theorem cf_make1 (args : Array Value) (w : World) : (callFunc 43 args).run Try.prog w = .ok (.enter 43 args) w := by kernel_rfl

set_option maxHeartbeats 1000000 in
theorem Make_any (p q : Int) (w : World) (hp : In64 p) (hq : In64 q) :
    Calls Try.prog 16 #[.int .i64 p, .int .i64 q] w fun e w' => e = .returned (RB (mk p q)) ∧ Below w.heap.size w w' := by
  have hmf := run_makeFunc
  by_cases h0 : q = 0
  · subst h0
    have hm : mk p 0 = (0, 0, false) := if_pos rfl
    rw [hm]
    clear hm
    go_enter Try.func16, Try.ntmps16
    go_wp2
    exact bodyPost_ret (v := RB (0, 0, false)) (by simp [results, Try.results16, go_sem, RB]) rfl ⟨rfl, (by repeat (first | exact Below.refl _ _ | with_reducible assumption | refine Below.alloc ?_ (by first | exact Nat.le_refl _ | (simp; done) | (simp; omega) | omega) _ | refine Below.setCell ?_ (by first | exact Nat.le_refl _ | (simp; done) | (simp; omega) | omega) _ | refine Below.drew ?_ | refine bdrewN ?_ _))⟩
  · have e0 : (q == 0) = false := beq_eq_false_iff_ne.2 h0
    by_cases hPQ : In64 (lowP p q) ∧ In64 (lowQ p q)
    · have hm : mk p q = (lowP p q, lowQ p q, true) := by unfold mk; rw [if_neg h0, if_pos hPQ]
      rw [hm]
      clear hm
      have ff := Lib.hid (fun (W0 : World) (b c : Nat) (hb : W0.cell? ⟨b, 0, none⟩ = some (.int .i64 p)) (hc : W0.cell? ⟨c, 0, none⟩ = some (.int .i64 q)) (bl : b < W0.heap.size) (cl : c < W0.heap.size) =>
        fitsR_ok 43 #[.pointer (some ⟨b, 0, none⟩), .pointer (some ⟨c, 0, none⟩)] (lowP p q) (lowQ p q) W0 (cf_make1 _) (fun W1 hW => make1_ok p q b c W1 hp hq h0 (keepcell hW hb) (keepcell hW hc) (Nat.lt_of_lt_of_le bl hW.size) (Nat.lt_of_lt_of_le cl hW.size) hPQ.1 hPQ.2))
      clear h0 hPQ
      go_enter Try.func16, Try.ntmps16
      go_wp2_with fail
      refine (ff.out _ _ _ (by simp [go_sem]) (by simp [go_sem]) (by first | exact Nat.le_refl _ | (simp; done) | (simp; omega) | omega) (by first | exact Nat.le_refl _ | (simp; done) | (simp; omega) | omega)).mono ?_
      rintro e w1 ⟨rfl, hb1⟩
      obtain ⟨g1, g2, g3⟩ := bgrow hb1
      have hbw : Below w.heap.size w w1 := by refine Below.trans ?_ (hb1.mono (by first | exact Nat.le_refl _ | (simp; done) | (simp; omega) | omega)); exact (by repeat (first | exact Below.refl _ _ | with_reducible assumption | refine Below.alloc ?_ (by first | exact Nat.le_refl _ | (simp; done) | (simp; omega) | omega) _ | refine Below.setCell ?_ (by first | exact Nat.le_refl _ | (simp; done) | (simp; omega) | omega) _ | refine Below.drew ?_ | refine bdrewN ?_ _))
      have k0 : w1.cell? ⟨w.heap.size + 1 + 1, 0, none⟩ = some (.int .i64 0) := by rw [g1 _ _ (by first | exact Nat.le_refl _ | (simp; done) | (simp; omega) | omega)]; simp [go_sem]
      have k1 : w1.cell? ⟨w.heap.size + 1 + 1, 1, none⟩ = some (.int .i64 0) := by rw [g1 _ _ (by first | exact Nat.le_refl _ | (simp; done) | (simp; omega) | omega)]; simp [go_sem]
      go_wp2
      exact bodyPost_ret (v := RB (lowP p q, lowQ p q, true)) (by simp [results, Try.results16, go_sem, RB, k0, k1]) rfl ⟨rfl, (by repeat (first | exact Below.refl _ _ | with_reducible assumption | refine Below.alloc ?_ (by first | exact Nat.le_refl _ | (simp; done) | (simp; omega) | omega) _ | refine Below.setCell ?_ (by first | exact Nat.le_refl _ | (simp; done) | (simp; omega) | omega) _ | refine Below.drew ?_ | refine bdrewN ?_ _))⟩
    · have hm : mk p q = (0, 0, false) := by unfold mk; rw [if_neg h0, if_neg hPQ]
      rw [hm]
      clear hm
      have ff := Lib.hid (fun (W0 : World) (b c : Nat) (hb : W0.cell? ⟨b, 0, none⟩ = some (.int .i64 p)) (hc : W0.cell? ⟨c, 0, none⟩ = some (.int .i64 q)) (bl : b < W0.heap.size) (cl : c < W0.heap.size) =>
        fitsR_no 43 #[.pointer (some ⟨b, 0, none⟩), .pointer (some ⟨c, 0, none⟩)] W0 (cf_make1 _) (fun W1 hW => make1_no p q b c W1 hp hq h0 (keepcell hW hb) (keepcell hW hc) (Nat.lt_of_lt_of_le bl hW.size) (Nat.lt_of_lt_of_le cl hW.size) hPQ))
      clear h0 hPQ
      go_enter Try.func16, Try.ntmps16
      go_wp2_with fail
      refine (ff.out _ _ _ (by simp [go_sem]) (by simp [go_sem]) (by first | exact Nat.le_refl _ | (simp; done) | (simp; omega) | omega) (by first | exact Nat.le_refl _ | (simp; done) | (simp; omega) | omega)).mono ?_
      rintro e w1 ⟨rfl, hb1⟩
      obtain ⟨g1, g2, g3⟩ := bgrow hb1
      have hbw : Below w.heap.size w w1 := by refine Below.trans ?_ (hb1.mono (by first | exact Nat.le_refl _ | (simp; done) | (simp; omega) | omega)); exact (by repeat (first | exact Below.refl _ _ | with_reducible assumption | refine Below.alloc ?_ (by first | exact Nat.le_refl _ | (simp; done) | (simp; omega) | omega) _ | refine Below.setCell ?_ (by first | exact Nat.le_refl _ | (simp; done) | (simp; omega) | omega) _ | refine Below.drew ?_ | refine bdrewN ?_ _))
      have k0 : w1.cell? ⟨w.heap.size + 1 + 1, 0, none⟩ = some (.int .i64 0) := by rw [g1 _ _ (by first | exact Nat.le_refl _ | (simp; done) | (simp; omega) | omega)]; simp [go_sem]
      have k1 : w1.cell? ⟨w.heap.size + 1 + 1, 1, none⟩ = some (.int .i64 0) := by rw [g1 _ _ (by first | exact Nat.le_refl _ | (simp; done) | (simp; omega) | omega)]; simp [go_sem]
      go_wp2
      exact bodyPost_ret (v := RB (0, 0, false)) (by simp [results, Try.results16, go_sem, RB, k0, k1]) rfl ⟨rfl, (by repeat (first | exact Below.refl _ _ | with_reducible assumption | refine Below.alloc ?_ (by first | exact Nat.le_refl _ | (simp; done) | (simp; omega) | omega) _ | refine Below.setCell ?_ (by first | exact Nat.le_refl _ | (simp; done) | (simp; omega) | omega) _ | refine Below.drew ?_ | refine bdrewN ?_ _))⟩
end Go.Proofs.Ytoodfkbciodapaa.Num
end

section
/- Contracts of num: small, lowest. -/
namespace Go.Proofs.Ytoodfkbciodapaa.Num
open Go.RowKit
set_option linter.unusedVariables false
set_option linter.unusedSimpArgs false

def smallB (p q : Int) : Bool := decide (p < 1073741824 ∧ -1073741824 < p ∧ q < 1073741824)

theorem small_any (p q : Int) (w : World) :
    Calls Try.prog 25 #[RV p q] w fun e w' => e = .returned (.bool (smallB p q)) ∧ w' = w.alloc (.cells #[.int .i64 p, .int .i64 q] 24) := by
  unfold smallB
  by_cases h1 : p < 1073741824
  · have e1 : decide (p < 1073741824) = true := decide_eq_true h1
    by_cases h2 : -1073741824 < p
    · have e2 : decide (-1073741824 < p) = true := decide_eq_true h2
      have hf : decide (p < 1073741824 ∧ -1073741824 < p ∧ q < 1073741824) = decide (q < 1073741824) := by simp [h1, h2]
      rw [hf]
      clear hf
      go_enter Try.func25, Try.ntmps25
      go_wp2
      go_ret
      exact ⟨rfl, rfl⟩
    · have e2 : decide (-1073741824 < p) = false := decide_eq_false h2
      have hf : decide (p < 1073741824 ∧ -1073741824 < p ∧ q < 1073741824) = false := decide_eq_false (fun h => h2 h.2.1)
      rw [hf]
      clear hf
      go_enter Try.func25, Try.ntmps25
      go_wp2
      go_ret
      exact ⟨rfl, rfl⟩
  · have e1 : decide (p < 1073741824) = false := decide_eq_false h1
    have hf : decide (p < 1073741824 ∧ -1073741824 < p ∧ q < 1073741824) = false := decide_eq_false (fun h => h1 h.1)
    rw [hf]
    clear hf
    go_enter Try.func25, Try.ntmps25
    go_wp2
    go_ret
    exact ⟨rfl, rfl⟩

theorem low_tdiv {p q : Int} (hq : 0 < q) (hp : In64 p) : wrap64 (p.tdiv (Int.gcd p q)) = lowP p q := by
  have g0 := gcd_pos (p := p) (q := q) (by omega)
  obtain ⟨h1, h2⟩ := hp
  unfold lowP sg sz
  by_cases hn : p < 0
  · have e : Int.tdiv p (Int.gcd p q) = -((-p) / (Int.gcd p q : Int)) := by
      rw [← Int.tdiv_eq_ediv_of_nonneg (by omega), Int.neg_tdiv, Int.neg_neg]
    rw [e]
    have k1 := Int.ediv_nonneg (a := -p) (by omega) (Int.le_of_lt g0)
    have k2 := Int.ediv_le_self (a := -p) (Int.gcd p q : Int) (by omega)
    simp [hn, show ¬ q < 0 from by omega]
    unfold wrap64
    omega
  · rw [Int.tdiv_eq_ediv_of_nonneg (by omega)]
    have k1 := Int.ediv_nonneg (a := p) (by omega) (Int.le_of_lt g0)
    have k2 := Int.ediv_le_self (a := p) (Int.gcd p q : Int) (by omega)
    simp [hn, show ¬ q < 0 from by omega]
    unfold wrap64
    omega

theorem low_tdivq {p q : Int} (hq : 0 < q) (hp : In64 q) : wrap64 (q.tdiv (Int.gcd p q)) = lowQ p q := by
  have g0 := gcd_pos (p := p) (q := q) (by omega)
  obtain ⟨h1, h2⟩ := hp
  unfold lowQ sz
  rw [Int.tdiv_eq_ediv_of_nonneg (by omega)]
  have k1 := Int.ediv_nonneg (a := q) (by omega) (Int.le_of_lt g0)
  have k2 := Int.ediv_le_self (a := q) (Int.gcd p q : Int) (by omega)
  simp [show ¬ q < 0 from by omega]
  unfold wrap64
  omega

theorem lowest_any (p q : Int) (w : World) (hp : In64 p) (hq : In64 q) (h0 : 0 < q) :
    Calls Try.prog 26 #[.int .i64 p, .int .i64 q] w fun e w' => e = .returned (RV (lowP p q) (lowQ p q)) ∧ Below w.heap.size w w' := by
  have s1 := Lib.hid (fun W0 => size_any p W0 hp.1 hp.2)
  have s2 := Lib.hid (fun W0 => size_any q W0 hq.1 hq.2)
  have a1 := sz_nonneg p
  have a2 := sz_le hp.1 hp.2
  have b1 := sz_nonneg q
  have b2 := sz_le hq.1 hq.2
  have gg := Lib.hid (fun W0 => gcd_any (sz p) (sz q) W0 a1 (by omega) b1 (by omega))
  have g0 := gcd_pos (p := p) (q := q) (by omega)
  have g1 : (Int.gcd p q : Int) < 9223372036854775808 := by
    have := Int.gcd_le_natAbs_right (a := p) (b := q) (by omega)
    have := hq.2
    omega
  rw [gcd_sz] at gg
  have t1 := Lib.hid (low_tdiv h0 hp)
  have t2 := Lib.hid (low_tdivq (p := p) h0 hq)
  clear hp hq h0
  generalize (Int.gcd p q : Int) = g at *
  have hn : ¬ g = 0 := by omega
  have hg0 : (0 : Int) ≤ g := by omega
  go_enter Try.func26, Try.ntmps26
  go_wp2_with fail
  refine (s1.out _).mono ?_
  rintro e w1 ⟨rfl, rfl⟩
  go_wp2_with fail
  refine (s2.out _).mono ?_
  rintro e w1 ⟨rfl, rfl⟩
  go_wp2_with fail
  refine (gg.out _).mono ?_
  rintro e w1 ⟨rfl, n, rfl⟩
  go_wp2
  go_region
  rw [t1.out, t2.out]
  go_wp2
  exact bodyPost_ret (v := RV (lowP p q) (lowQ p q)) (by simp [results, Try.results26, go_sem]) rfl ⟨rfl, (by repeat (first | exact Below.refl _ _ | with_reducible assumption | refine Below.alloc ?_ (by first | exact Nat.le_refl _ | (simp; done) | (simp; omega) | omega) _ | refine Below.setCell ?_ (by first | exact Nat.le_refl _ | (simp; done) | (simp; omega) | omega) _ | refine Below.drew ?_ | refine bdrewN ?_ _))⟩

/-- What is below one of two products of small numbers. -/
theorem small_mul {a b : Int} (h1 : -1073741824 < a) (h2 : a < 1073741824) (h3 : -1073741824 < b) (h4 : b < 1073741824) : -1152921504606846976 < a * b ∧ a * b < 1152921504606846976 := by
  have ha : a.natAbs ≤ 1073741823 := by omega
  have hb : b.natAbs ≤ 1073741823 := by omega
  have := Nat.mul_le_mul ha hb
  rw [← Int.natAbs_mul] at this
  omega

theorem lowP_in {p q : Int} (hp : In64 p) (h0 : 0 < q) : In64 (lowP p q) := by
  rw [← low_tdiv h0 hp]
  unfold wrap64 In64
  omega
theorem lowQ_in {p q : Int} (hp : In64 q) (h0 : 0 < q) : In64 (lowQ p q) := by
  rw [← low_tdivq h0 hp]
  unfold wrap64 In64
  omega
theorem mk_small {p q : Int} (hp : In64 p) (hq : In64 q) (h0 : 0 < q) : mk p q = (lowP p q, lowQ p q, true) := by
  unfold mk
  rw [if_neg (by omega), if_pos ⟨lowP_in hp h0, lowQ_in hq h0⟩]

theorem sum_wrong (p q r s : Int) (t : Bool) (w : World) (h : ¬ (0 < q ∧ 0 < s)) :
    Calls Try.prog 23 #[RV p q, RV r s, .bool t] w fun e w' => e = .returned (RB (0, 0, false)) ∧ Below w.heap.size w w' := by
  by_cases hq : 0 < q
  · have hs : ¬ 0 < s := fun k => h ⟨hq, k⟩
    have e1 : decide (0 < q) = true := decide_eq_true hq
    have e2 : decide (0 < s) = false := decide_eq_false hs
    clear h hq hs
    go_enter Try.func23, Try.ntmps23
    go_wp2_with fail
    refine (right_any _ _ _).mono ?_
    rintro e w1 ⟨rfl, rfl⟩
    rw [e1]
    go_wp2_with fail
    refine (right_any _ _ _).mono ?_
    rintro e w1 ⟨rfl, rfl⟩
    rw [e2]
    go_wp2
    exact bodyPost_ret (v := RB (0, 0, false)) (by simp [results, Try.results23, go_sem, RB]) rfl ⟨rfl, (by repeat (first | exact Below.refl _ _ | with_reducible assumption | refine Below.alloc ?_ (by first | exact Nat.le_refl _ | (simp; done) | (simp; omega) | omega) _ | refine Below.setCell ?_ (by first | exact Nat.le_refl _ | (simp; done) | (simp; omega) | omega) _ | refine Below.drew ?_ | refine bdrewN ?_ _))⟩
  · have e1 : decide (0 < q) = false := decide_eq_false hq
    clear h hq
    go_enter Try.func23, Try.ntmps23
    go_wp2_with fail
    refine (right_any _ _ _).mono ?_
    rintro e w1 ⟨rfl, rfl⟩
    rw [e1]
    go_wp2
    exact bodyPost_ret (v := RB (0, 0, false)) (by simp [results, Try.results23, go_sem, RB]) rfl ⟨rfl, (by repeat (first | exact Below.refl _ _ | with_reducible assumption | refine Below.alloc ?_ (by first | exact Nat.le_refl _ | (simp; done) | (simp; omega) | omega) _ | refine Below.setCell ?_ (by first | exact Nat.le_refl _ | (simp; done) | (simp; omega) | omega) _ | refine Below.drew ?_ | refine bdrewN ?_ _))⟩

/-- p/q and r/s, added, or taken away: above q * s. -/
def top (p q r s : Int) (t : Bool) : Int := if t = true then p * s - r * q else p * s + r * q

theorem sum_small (p q r s : Int) (t : Bool) (w : World) (hq : 0 < q) (hs : 0 < s) (k1 : smallB p q = true) (k2 : smallB r s = true) :
    Calls Try.prog 23 #[RV p q, RV r s, .bool t] w fun e w' => e = .returned (RB (mk (top p q r s t) (q * s))) ∧ Below w.heap.size w w' := by
  have c1 := of_decide_eq_true k1
  have c2 := of_decide_eq_true k2
  have m1 := small_mul (a := p) (b := s) (by omega) (by omega) (by omega) (by omega)
  have m2 := small_mul (a := r) (b := q) (by omega) (by omega) (by omega) (by omega)
  have m3 := small_mul (a := q) (b := s) (by omega) (by omega) (by omega) (by omega)
  have m4 := Int.mul_pos hq hs
  have e1 : decide (0 < q) = true := decide_eq_true hq
  have e2 : decide (0 < s) = true := decide_eq_true hs
  have w1 : wrap64 (p * s) = p * s := by unfold wrap64; omega
  have w2 : wrap64 (r * q) = r * q := by unfold wrap64; omega
  have w3 : wrap64 (q * s) = q * s := by unfold wrap64; omega
  have w4 : wrap64 (p * s - r * q) = p * s - r * q := by unfold wrap64; omega
  have w5 : wrap64 (p * s + r * q) = p * s + r * q := by unfold wrap64; omega
  have hD : In64 (q * s) := ⟨by omega, by omega⟩
  have hN : In64 (top p q r s t) := by unfold top; split <;> exact ⟨by omega, by omega⟩
  have low := Lib.hid (fun W0 => lowest_any (top p q r s t) (q * s) W0 hN hD m4)
  rw [mk_small hN hD m4]
  clear c1 c2 m1 m2 m3 m4 hq hs hD hN
  cases t
  · simp only [top, Bool.false_eq_true, if_false] at low ⊢
    go_enter Try.func23, Try.ntmps23
    go_wp2_with fail
    refine (right_any _ _ _).mono ?_
    rintro e w1 ⟨rfl, rfl⟩
    rw [e1]
    go_wp2_with fail
    refine (right_any _ _ _).mono ?_
    rintro e w1 ⟨rfl, rfl⟩
    rw [e2]
    go_wp2_with fail
    refine (small_any _ _ _).mono ?_
    rintro e w1 ⟨rfl, rfl⟩
    rw [k1]
    go_wp2_with fail
    refine (small_any _ _ _).mono ?_
    rintro e w1 ⟨rfl, rfl⟩
    rw [k2]
    go_wp2_with fail
    refine (small_any _ _ _).mono ?_
    rintro e w1 ⟨rfl, rfl⟩
    rw [k1]
    go_wp2_with fail
    refine (small_any _ _ _).mono ?_
    rintro e w1 ⟨rfl, rfl⟩
    rw [k2]
    go_wp2_with fail
    refine (low.out _).mono ?_
    rintro e w1 ⟨rfl, hb1⟩
    obtain ⟨g1, g2, g3⟩ := bgrow hb1
    have hbw : Below w.heap.size w w1 := by refine Below.trans ?_ (hb1.mono (by first | exact Nat.le_refl _ | (simp; done) | (simp; omega) | omega)); exact (by repeat (first | exact Below.refl _ _ | with_reducible assumption | refine Below.alloc ?_ (by first | exact Nat.le_refl _ | (simp; done) | (simp; omega) | omega) _ | refine Below.setCell ?_ (by first | exact Nat.le_refl _ | (simp; done) | (simp; omega) | omega) _ | refine Below.drew ?_ | refine bdrewN ?_ _))
    have z0 : w1.cell? ⟨w.heap.size + 1 + 1 + 1, 0, none⟩ = some (.int .i64 0) := by rw [g1 _ _ (by first | exact Nat.le_refl _ | (simp; done) | (simp; omega) | omega)]; simp [go_sem]
    have z1 : w1.cell? ⟨w.heap.size + 1 + 1 + 1, 1, none⟩ = some (.int .i64 0) := by rw [g1 _ _ (by first | exact Nat.le_refl _ | (simp; done) | (simp; omega) | omega)]; simp [go_sem]
    go_wp2
    exact bodyPost_ret (v := RB (lowP (p * s + r * q) (q * s), lowQ (p * s + r * q) (q * s), true)) (by simp [results, Try.results23, go_sem, RB, z0, z1]) rfl ⟨rfl, (by repeat (first | exact Below.refl _ _ | with_reducible assumption | refine Below.alloc ?_ (by first | exact Nat.le_refl _ | (simp; done) | (simp; omega) | omega) _ | refine Below.setCell ?_ (by first | exact Nat.le_refl _ | (simp; done) | (simp; omega) | omega) _ | refine Below.drew ?_ | refine bdrewN ?_ _))⟩
  · simp only [top, if_true] at low ⊢
    go_enter Try.func23, Try.ntmps23
    go_wp2_with fail
    refine (right_any _ _ _).mono ?_
    rintro e w1 ⟨rfl, rfl⟩
    rw [e1]
    go_wp2_with fail
    refine (right_any _ _ _).mono ?_
    rintro e w1 ⟨rfl, rfl⟩
    rw [e2]
    go_wp2_with fail
    refine (small_any _ _ _).mono ?_
    rintro e w1 ⟨rfl, rfl⟩
    rw [k1]
    go_wp2_with fail
    refine (small_any _ _ _).mono ?_
    rintro e w1 ⟨rfl, rfl⟩
    rw [k2]
    go_wp2_with fail
    refine (low.out _).mono ?_
    rintro e w1 ⟨rfl, hb1⟩
    obtain ⟨g1, g2, g3⟩ := bgrow hb1
    have hbw : Below w.heap.size w w1 := by refine Below.trans ?_ (hb1.mono (by first | exact Nat.le_refl _ | (simp; done) | (simp; omega) | omega)); exact (by repeat (first | exact Below.refl _ _ | with_reducible assumption | refine Below.alloc ?_ (by first | exact Nat.le_refl _ | (simp; done) | (simp; omega) | omega) _ | refine Below.setCell ?_ (by first | exact Nat.le_refl _ | (simp; done) | (simp; omega) | omega) _ | refine Below.drew ?_ | refine bdrewN ?_ _))
    have z0 : w1.cell? ⟨w.heap.size + 1 + 1 + 1, 0, none⟩ = some (.int .i64 0) := by rw [g1 _ _ (by first | exact Nat.le_refl _ | (simp; done) | (simp; omega) | omega)]; simp [go_sem]
    have z1 : w1.cell? ⟨w.heap.size + 1 + 1 + 1, 1, none⟩ = some (.int .i64 0) := by rw [g1 _ _ (by first | exact Nat.le_refl _ | (simp; done) | (simp; omega) | omega)]; simp [go_sem]
    go_wp2
    exact bodyPost_ret (v := RB (lowP (p * s - r * q) (q * s), lowQ (p * s - r * q) (q * s), true)) (by simp [results, Try.results23, go_sem, RB, z0, z1]) rfl ⟨rfl, (by repeat (first | exact Below.refl _ _ | with_reducible assumption | refine Below.alloc ?_ (by first | exact Nat.le_refl _ | (simp; done) | (simp; omega) | omega) _ | refine Below.setCell ?_ (by first | exact Nat.le_refl _ | (simp; done) | (simp; omega) | omega) _ | refine Below.drew ?_ | refine bdrewN ?_ _))⟩
end Go.Proofs.Ytoodfkbciodapaa.Num
end

section
/- Contracts of num: Plus and Minus, from what sum answers. -/
namespace Go.Proofs.Ytoodfkbciodapaa.Num
open Go.RowKit
set_option linter.unusedVariables false
set_option linter.unusedSimpArgs false

theorem Plus_of (p q r s : Int) (z : Int × Int × Bool) (w : World) (h : ∀ W, Calls Try.prog 23 #[RV p q, RV r s, .bool false] W fun e w' => e = .returned (RB z) ∧ Below W.heap.size W w') :
    Calls Try.prog 6 #[RV p q, RV r s] w fun e w' => e = .returned (RB z) ∧ Below w.heap.size w w' := by
  have H := Lib.hid h
  clear h
  obtain ⟨x, y, b⟩ := z
  go_enter Try.func6, Try.ntmps6
  go_wp2_with fail
  refine (H.out _).mono ?_
  rintro e w1 ⟨rfl, hb1⟩
  obtain ⟨g1, g2, g3⟩ := bgrow hb1
  have hbw : Below w.heap.size w w1 := by refine Below.trans ?_ (hb1.mono (by first | exact Nat.le_refl _ | (simp; done) | (simp; omega) | omega)); exact (by repeat (first | exact Below.refl _ _ | with_reducible assumption | refine Below.alloc ?_ (by first | exact Nat.le_refl _ | (simp; done) | (simp; omega) | omega) _ | refine Below.setCell ?_ (by first | exact Nat.le_refl _ | (simp; done) | (simp; omega) | omega) _ | refine Below.drew ?_ | refine bdrewN ?_ _))
  have z0 : w1.cell? ⟨w.heap.size + 1 + 1, 0, none⟩ = some (.int .i64 0) := by rw [g1 _ _ (by first | exact Nat.le_refl _ | (simp; done) | (simp; omega) | omega)]; simp [go_sem]
  have z1 : w1.cell? ⟨w.heap.size + 1 + 1, 1, none⟩ = some (.int .i64 0) := by rw [g1 _ _ (by first | exact Nat.le_refl _ | (simp; done) | (simp; omega) | omega)]; simp [go_sem]
  go_wp2
  exact bodyPost_ret (v := RB (x, y, b)) (by simp [results, Try.results6, go_sem, z0, z1]) rfl ⟨rfl, (by repeat (first | exact Below.refl _ _ | with_reducible assumption | refine Below.alloc ?_ (by first | exact Nat.le_refl _ | (simp; done) | (simp; omega) | omega) _ | refine Below.setCell ?_ (by first | exact Nat.le_refl _ | (simp; done) | (simp; omega) | omega) _ | refine Below.drew ?_ | refine bdrewN ?_ _))⟩

theorem Minus_of (p q r s : Int) (z : Int × Int × Bool) (w : World) (h : ∀ W, Calls Try.prog 23 #[RV p q, RV r s, .bool true] W fun e w' => e = .returned (RB z) ∧ Below W.heap.size W w') :
    Calls Try.prog 7 #[RV p q, RV r s] w fun e w' => e = .returned (RB z) ∧ Below w.heap.size w w' := by
  have H := Lib.hid h
  clear h
  obtain ⟨x, y, b⟩ := z
  go_enter Try.func7, Try.ntmps7
  go_wp2_with fail
  refine (H.out _).mono ?_
  rintro e w1 ⟨rfl, hb1⟩
  obtain ⟨g1, g2, g3⟩ := bgrow hb1
  have hbw : Below w.heap.size w w1 := by refine Below.trans ?_ (hb1.mono (by first | exact Nat.le_refl _ | (simp; done) | (simp; omega) | omega)); exact (by repeat (first | exact Below.refl _ _ | with_reducible assumption | refine Below.alloc ?_ (by first | exact Nat.le_refl _ | (simp; done) | (simp; omega) | omega) _ | refine Below.setCell ?_ (by first | exact Nat.le_refl _ | (simp; done) | (simp; omega) | omega) _ | refine Below.drew ?_ | refine bdrewN ?_ _))
  have z0 : w1.cell? ⟨w.heap.size + 1 + 1, 0, none⟩ = some (.int .i64 0) := by rw [g1 _ _ (by first | exact Nat.le_refl _ | (simp; done) | (simp; omega) | omega)]; simp [go_sem]
  have z1 : w1.cell? ⟨w.heap.size + 1 + 1, 1, none⟩ = some (.int .i64 0) := by rw [g1 _ _ (by first | exact Nat.le_refl _ | (simp; done) | (simp; omega) | omega)]; simp [go_sem]
  go_wp2
  exact bodyPost_ret (v := RB (x, y, b)) (by simp [results, Try.results7, go_sem, z0, z1]) rfl ⟨rfl, (by repeat (first | exact Below.refl _ _ | with_reducible assumption | refine Below.alloc ?_ (by first | exact Nat.le_refl _ | (simp; done) | (simp; omega) | omega) _ | refine Below.setCell ?_ (by first | exact Nat.le_refl _ | (simp; done) | (simp; omega) | omega) _ | refine Below.drew ?_ | refine bdrewN ?_ _))⟩

theorem cell_lt {W : World} {b o : Nat} {v : Value} (h : W.cell? ⟨b, o, none⟩ = some v) : b < W.heap.size := by
  by_cases hlt : b < W.heap.size
  · exact hlt
  · rw [World.cell?, Array.getElem?_eq_none (Nat.not_lt.1 hlt)] at h
    simp at h

end Go.Proofs.Ytoodfkbciodapaa.Num
end
