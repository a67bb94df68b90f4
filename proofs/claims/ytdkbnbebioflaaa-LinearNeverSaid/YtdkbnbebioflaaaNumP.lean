/- Plain arithmetic of 64 and 128 bits. -/
import Derived.Laws.Bits64b
import Derived.Laws.BitsLemmas
import Derived.Lib.BitFns
namespace Go.Proofs.Ytdkbnbebioflaaa.Num

theorem and32 {x : Int} (h : 0 ≤ x) (h2 : x < 18446744073709551616) : bits .and .u64 x 4294967295 = x % 4294967296 :=
  bits_mask .u64 64 (by decide) (fun n h0 h1 => by rw [IntKind.wrap_u64]; omega) 32 (by decide) x h h2

theorem mul_bound {a b m n : Int} (ha : 0 ≤ a) (ha2 : a ≤ m) (hb : 0 ≤ b) (hb2 : b ≤ n) : 0 ≤ a * b ∧ a * b ≤ m * n :=
  ⟨Int.mul_nonneg ha hb, Int.mul_le_mul ha2 hb2 hb (by omega)⟩

theorem mul_lo {x y : Int} : IntKind.u64.wrap (x * y) = x * y % 18446744073709551616 := by rw [IntKind.wrap_u64]

theorem mul_hi {x y : Int} (hx : 0 ≤ x) (hx2 : x < 18446744073709551616) (hy : 0 ≤ y) (hy2 : y < 18446744073709551616) :
    IntKind.u64.wrap
      (IntKind.u64.wrap
          (IntKind.u64.wrap (x / 4294967296 * (y / 4294967296)) +
            IntKind.u64.wrap
                (IntKind.u64.wrap (x / 4294967296 * bits BinOp.and .u64 y 4294967295) +
                  IntKind.u64.wrap (bits BinOp.and .u64 x 4294967295 * bits BinOp.and .u64 y 4294967295) / 4294967296) /
              4294967296) +
        IntKind.u64.wrap
            (bits BinOp.and .u64
                (IntKind.u64.wrap
                  (IntKind.u64.wrap (x / 4294967296 * bits BinOp.and .u64 y 4294967295) +
                    IntKind.u64.wrap (bits BinOp.and .u64 x 4294967295 * bits BinOp.and .u64 y 4294967295) / 4294967296))
                4294967295 +
              IntKind.u64.wrap (bits BinOp.and .u64 x 4294967295 * (y / 4294967296))) /
          4294967296) = x * y / 18446744073709551616 := by
  rw [and32 hx hx2, and32 hy hy2]
  have hxe : x = x / 4294967296 * 4294967296 + x % 4294967296 := by omega
  have hye : y = y / 4294967296 * 4294967296 + y % 4294967296 := by omega
  have x10 : 0 ≤ x / 4294967296 := by omega
  have x11 : x / 4294967296 ≤ 4294967295 := by omega
  have x00 : 0 ≤ x % 4294967296 := by omega
  have x01 : x % 4294967296 ≤ 4294967295 := by omega
  have y10 : 0 ≤ y / 4294967296 := by omega
  have y11 : y / 4294967296 ≤ 4294967295 := by omega
  have y00 : 0 ≤ y % 4294967296 := by omega
  have y01 : y % 4294967296 ≤ 4294967295 := by omega
  generalize x / 4294967296 = a at *
  generalize x % 4294967296 = b at *
  generalize y / 4294967296 = c at *
  generalize y % 4294967296 = d at *
  have hp : x * y = a * c * 18446744073709551616 + (a * d + b * c) * 4294967296 + b * d := by rw [hxe, hye]; grind
  rw [hp]
  obtain ⟨p0, p1⟩ := mul_bound x10 x11 y10 y11
  obtain ⟨q0, q1⟩ := mul_bound x10 x11 y00 y01
  obtain ⟨r0, r1⟩ := mul_bound x00 x01 y10 y11
  obtain ⟨s0, s1⟩ := mul_bound x00 x01 y00 y01
  generalize a * c = p at *
  generalize a * d = q at *
  generalize b * c = r at *
  generalize b * d = s at *
  have f1 : IntKind.u64.wrap (IntKind.u64.wrap q + IntKind.u64.wrap s / 4294967296) = q + s / 4294967296 := by simp only [IntKind.wrap_u64]; omega
  rw [f1, and32 (by omega) (by omega)]
  simp only [IntKind.wrap_u64]
  omega

/-! Half a step of a long division: a digit, guessed by the first digit of what is divided by. -/
def HInv (u v1 q r Q : Int) : Prop := 0 ≤ q ∧ q ≤ 4294967297 ∧ 0 ≤ r ∧ r < 4294967296 ∧ q * v1 + r = u ∧ Q ≤ q

structure Half (u v1 v0 Y d Q : Int) : Prop where
  hY : Y = v1 * 4294967296 + v0
  h1 : 2147483648 ≤ v1
  h1' : v1 < 4294967296
  h0 : 0 ≤ v0
  h0' : v0 < 4294967296
  hu : 0 ≤ u
  hu' : u < Y
  hd : 0 ≤ d
  hd' : d < 4294967296
  hQ : Q = (u * 4294967296 + d) / Y

section
variable {u v1 v0 Y d q r Q : Int}
theorem half_le (H : Half u v1 v0 Y d Q) : q ≤ Q ↔ q * v1 * 4294967296 + q * v0 ≤ u * 4294967296 + d := by
  obtain ⟨hY, h1, h1', h0, h0', hu, hu', hd, hd', hQ⟩ := H
  rw [hQ, Int.le_ediv_iff_mul_le (by omega)]
  have : q * Y = q * v1 * 4294967296 + q * v0 := by rw [hY]; grind
  rw [this]

theorem half_start (H : Half u v1 v0 Y d Q) (hq : q = u / v1) (hr : r = u % v1) : HInv u v1 q r Q := by
  have H' := H
  obtain ⟨hY, h1, h1', h0, h0', hu, hu', hd, hd', hQ⟩ := H
  have e : q * v1 + r = u := by rw [hq, hr]; have := Int.mul_ediv_add_emod u v1; grind
  have r0 : 0 ≤ r := by rw [hr]; exact Int.emod_nonneg _ (by omega)
  have r1 : r < v1 := by rw [hr]; exact Int.emod_lt_of_pos _ (by omega)
  have q0 : 0 ≤ q := by rw [hq]; exact Int.ediv_nonneg hu (by omega)
  have q1 : q ≤ 4294967297 := by
    rw [hq]
    have : u / v1 < 4294967298 := by
      rw [Int.ediv_lt_iff_lt_mul (by omega)]
      omega
    omega
  refine ⟨q0, q1, r0, by omega, e, ?_⟩
  -- one more than q is above
  have hn : ¬ (q + 1 ≤ Q) := by
    rw [half_le H']
    have a1 : (q + 1) * v1 = q * v1 + v1 := by grind
    have a2 : 0 ≤ (q + 1) * v0 := Int.mul_nonneg (by omega) h0
    rw [a1]
    omega
  omega

theorem half_more (H : Half u v1 v0 Y d Q) (hi : HInv u v1 q r Q) (hc : 4294967296 ≤ q ∨ 4294967296 * r + d < q * v0) :
    1 ≤ q ∧ Q ≤ q - 1 ∧ (q - 1) * v1 + (r + v1) = u ∧ (4294967296 ≤ r + v1 → q - 1 = Q) := by
  have H' := H
  obtain ⟨hY, h1, h1', h0, h0', hu, hu', hd, hd', hQ⟩ := H
  obtain ⟨q0, q1, r0, r1, e, hl⟩ := hi
  have hlt : Q < q := by
    rcases hc with hc | hc
    · have hn : ¬ (4294967296 ≤ Q) := by
        rw [half_le H']
        omega
      omega
    · have hn : ¬ (q ≤ Q) := by
        rw [half_le H']
        omega
      omega
  have q2 : 1 ≤ q := by
    have : 0 ≤ Q := by rw [hQ]; exact Int.ediv_nonneg (by omega) (by omega)
    omega
  have e2 : (q - 1) * v1 + (r + v1) = u := by rw [← e]; grind
  refine ⟨q2, by omega, e2, fun hb => ?_⟩
  have : q - 1 ≤ Q := by
    rw [half_le H']
    have b := (mul_bound (a := q - 1) (b := v0) (m := 4294967296) (n := 4294967295) (by omega) (by omega) h0 (by omega)).2
    omega
  omega

theorem half_stop (H : Half u v1 v0 Y d Q) (hi : HInv u v1 q r Q) (hc2 : q * v0 ≤ 4294967296 * r + d) : q = Q := by
  obtain ⟨q0, q1, r0, r1, e, hl⟩ := hi
  have : q ≤ Q := by
    rw [half_le H]
    omega
  omega

theorem half_mul (h0 : 0 ≤ v0) (h0' : v0 < 4294967296) (hc : 0 ≤ q) (hc2 : q < 4294967296) : 0 ≤ q * v0 ∧ q * v0 < 18446744073709551616 := by
  have := mul_bound hc (show q ≤ 4294967295 by omega) h0 (show v0 ≤ 4294967295 by omega)
  omega
end

theorem bitLen_spec : ∀ (n x : Nat), x ≤ n → x ≠ 0 → x < 2 ^ 64 → 1 ≤ Lib.bitLen x ∧ 2 ^ (Lib.bitLen x - 1) ≤ x ∧ x < 2 ^ Lib.bitLen x := by
  intro n
  induction n with
  | zero => intro x h1 h2; omega
  | succ n ih =>
    intro x h1 h2 h3
    rw [Lib.bitLen_half x h2 h3]
    by_cases hx : x / 2 = 0
    · have : x = 1 := by omega
      subst this
      decide
    · obtain ⟨a, b, c⟩ := ih (x / 2) (by omega) hx (by omega)
      refine ⟨by omega, ?_, ?_⟩
      · rw [show 1 + Lib.bitLen (x / 2) - 1 = (Lib.bitLen (x / 2) - 1) + 1 from by omega, Nat.pow_succ]
        omega
      · rw [Nat.pow_add]
        omega
theorem bitLen_le {x : Nat} (h : x < 2 ^ 64) : Lib.bitLen x ≤ 64 := by
  by_cases h0 : x = 0
  · subst h0; decide
  · obtain ⟨a, b, c⟩ := bitLen_spec x x (Nat.le_refl _) h0 h
    by_cases hb : Lib.bitLen x ≤ 64
    · exact hb
    · have : 2 ^ 64 ≤ 2 ^ (Lib.bitLen x - 1) := Nat.pow_le_pow_right (by decide) (by omega)
      omega

theorem norm_facts {y : Int} (h0 : 0 < y) (h : y < 18446744073709551616) :
    0 ≤ 64 - (Lib.bitLen y.toNat : Int) ∧ 64 - (Lib.bitLen y.toNat : Int) < 64 ∧ 9223372036854775808 ≤ y * 2 ^ (64 - (Lib.bitLen y.toNat : Int)).toNat ∧ y * 2 ^ (64 - (Lib.bitLen y.toNat : Int)).toNat < 18446744073709551616 ∧
    (2 : Int) ^ (64 - (Lib.bitLen y.toNat : Int)).toNat * 2 ^ (64 - (64 - (Lib.bitLen y.toNat : Int))).toNat = 18446744073709551616 := by
  obtain ⟨x, rfl⟩ := Int.eq_ofNat_of_zero_le (Int.le_of_lt h0)
  have hx : x < 2 ^ 64 := by omega
  obtain ⟨a, b, c⟩ := bitLen_spec x x (Nat.le_refl _) (by omega) hx
  have d := bitLen_le hx
  simp only [Int.toNat_natCast]
  have e1 : (64 - (Lib.bitLen x : Int)).toNat = 64 - Lib.bitLen x := by omega
  have e2 : (64 - (64 - (Lib.bitLen x : Int))).toNat = Lib.bitLen x := by omega
  rw [e1, e2]
  have p1 : 2 ^ (Lib.bitLen x - 1) * 2 ^ (64 - Lib.bitLen x) = 9223372036854775808 := by rw [← Nat.pow_add, show Lib.bitLen x - 1 + (64 - Lib.bitLen x) = 63 from by omega]
  have p2 : 2 ^ (64 - Lib.bitLen x) * 2 ^ (Lib.bitLen x) = 18446744073709551616 := by rw [← Nat.pow_add, show 64 - Lib.bitLen x + Lib.bitLen x = 64 from by omega]
  have q1 := Nat.mul_le_mul_right (2 ^ (64 - Lib.bitLen x)) b
  have q2 := (Nat.mul_lt_mul_right (a := 2 ^ (64 - Lib.bitLen x)) (Nat.pow_pos (by decide))).2 c
  rw [p1] at q1
  rw [Nat.mul_comm (2 ^ Lib.bitLen x), p2] at q2
  have k1 : (x : Int) * 2 ^ (64 - Lib.bitLen x) = ((x * 2 ^ (64 - Lib.bitLen x) : Nat) : Int) := by rw [Int.natCast_mul, Int.natCast_pow]; rfl
  have k2 : (2 : Int) ^ (64 - Lib.bitLen x) * 2 ^ (Lib.bitLen x) = ((2 ^ (64 - Lib.bitLen x) * 2 ^ (Lib.bitLen x) : Nat) : Int) := by rw [Int.natCast_mul, Int.natCast_pow, Int.natCast_pow]; rfl
  rw [k1, k2, p2]
  generalize x * 2 ^ (64 - Lib.bitLen x) = z at *
  exact ⟨by omega, by omega, by omega, by omega, rfl⟩

/-- A step of the division: out of the head u < Y and a digit. -/
theorem half_rest {u v1 v0 Y d Q : Int} (H : Half u v1 v0 Y d Q) : 0 ≤ Q ∧ Q < 4294967296 ∧ 0 ≤ u * 4294967296 + d - Q * Y ∧ u * 4294967296 + d - Q * Y < Y := by
  obtain ⟨hY, h1, h1', h0, h0', hu, hu', hd, hd', hQ⟩ := H
  have e := Int.mul_ediv_add_emod (u * 4294967296 + d) Y
  have r0 := Int.emod_nonneg (u * 4294967296 + d) (show Y ≠ 0 by omega)
  have r1 := Int.emod_lt_of_pos (u * 4294967296 + d) (show 0 < Y by omega)
  rw [← hQ, Int.mul_comm] at e
  refine ⟨?_, ?_, by omega, by omega⟩
  · rw [hQ]; exact Int.ediv_nonneg (by omega) (by omega)
  · rw [hQ, Int.ediv_lt_iff_lt_mul (by omega)]; omega
end Go.Proofs.Ytdkbnbebioflaaa.Num
