import Derived.Test.YtbpjnkeilhfajaaGreatRefA
import Derived.Test.YtbpjnkeilhfajaaGreatWMore
import Derived.Laws.Bits64b
import Derived.Laws.BitsLemmas
import Derived.Lib.BitFns
import Derived.Test.YtbpjnkeilhfajaaGreatNumA
section
/- Plain law: rows of decimal digits, the lowest first, and the numbers that they are. -/
namespace Go.Proofs.YtbpjnkeilhfajaaGreat.Dig
set_option linter.unusedVariables false
set_option linter.unusedSimpArgs false
open Go.RowKit Go.Proofs.YtbpjnkeilhfajaaGreatW.PrintWords Go.Proofs.YtbpjnkeilhfajaaGreat.Ref
def val : List Int → Int
 | [] => 0
 | d :: t => d + 10 * val t
def Dig (l : List Int) : Prop := ∀ d ∈ l, 0 ≤ d ∧ d ≤ 9
theorem dig_nil : Dig [] := fun d h => by cases h
theorem dig_cons {d : Int} {t : List Int} : Dig (d :: t) ↔ (0 ≤ d ∧ d ≤ 9) ∧ Dig t := by
 unfold Dig; simp
theorem dig_append {a b : List Int} : Dig (a ++ b) ↔ Dig a ∧ Dig b := by
 unfold Dig; simp only [List.mem_append]
 constructor
 ·intro h; exact ⟨fun d k => h d (.inl k), fun d k => h d (.inr k)⟩
 ·rintro ⟨h, k⟩ d (m | m)
  ·exact h d m
  ·exact k d m
theorem dig_drop {a : List Int} (h : Dig a) (n : Nat) : Dig (a.drop n) := fun d k => h d (List.mem_of_mem_drop k)
theorem dig_take {a : List Int} (h : Dig a) (n : Nat) : Dig (a.take n) := fun d k => h d (List.mem_of_mem_take k)
theorem val_nonneg : ∀ {l : List Int}, Dig l → 0 ≤ val l
 | [], _ => Int.le_refl _
 | d :: t, h => by
  have h1 := (dig_cons.1 h).1
  have h2 := val_nonneg (dig_cons.1 h).2
  unfold val; omega
theorem val_append : ∀ (a b : List Int), val (a ++ b) = val a + 10 ^ a.length * val b
 | [], b => by simp [val]
 | d :: t, b => by
  have := val_append t b
  simp only [List.cons_append, val, List.length_cons, this, Int.pow_succ]
  grind
theorem val_lt : ∀ {l : List Int}, Dig l → val l < 10 ^ l.length
 | [], _ => by simp [val]
 | d :: t, h => by
  have h1 := (dig_cons.1 h).1
  have h2 := val_lt (dig_cons.1 h).2
  simp only [val, List.length_cons, Int.pow_succ]; omega
def dg (n : Nat) : List Int := if h : n = 0 then [] else ((n % 10 : Nat) : Int) :: dg (n / 10)
termination_by n
decreasing_by omega
theorem dg_zero : dg 0 = [] := by unfold dg; simp
theorem dg_pos {n : Nat} (h : n ≠ 0) : dg n = ((n % 10 : Nat) : Int) :: dg (n / 10) := by rw [dg]; simp [h]
theorem dg_nil {n : Nat} : dg n = [] ↔ n = 0 := by
 constructor
 ·intro h; by_cases k : n = 0
  ·exact k
  ·rw [dg_pos k] at h; cases h
 ·rintro rfl; exact dg_zero
theorem dg_len0 {n : Nat} : ((dg n).length : Int) = 0 ↔ n = 0 := by
 rw [← dg_nil (n := n)]
 constructor
 ·intro h; exact List.length_eq_zero_iff.1 (by omega)
 ·intro h; rw [h]; rfl
theorem dg_val (n : Nat) : val (dg n) = n := by
 induction n using Nat.strongRecOn with
 | _ n ih =>
  by_cases h : n = 0
  ·subst h; rw [dg_zero]; rfl
  ·rw [dg_pos h]; have := ih (n / 10) (by omega); simp only [val, this]; omega
theorem dg_dig (n : Nat) : Dig (dg n) := by
 induction n using Nat.strongRecOn with
 | _ n ih =>
  by_cases h : n = 0
  ·subst h; rw [dg_zero]; exact dig_nil
  ·rw [dg_pos h]; exact dig_cons.2 ⟨by omega, ih (n / 10) (by omega)⟩
theorem dg_len {n k : Nat} (h : n < 10 ^ k) : (dg n).length ≤ k := by
 induction k generalizing n with
 | zero =>
  have : n = 0 := by simpa using h
  subst this; rw [dg_zero]; simp
 | succ k ih =>
  by_cases h0 : n = 0
  ·subst h0; rw [dg_zero]; simp
  ·rw [dg_pos h0]
   have := ih (n := n / 10) (by rw [Nat.pow_succ] at h; omega)
   simp only [List.length_cons]; omega
def trim : List Int → List Int
 | [] => []
 | d :: t => if d = 0 ∧ trim t = [] then [] else d :: trim t
theorem trim_snoc (d : Int) : ∀ x : List Int, trim (x ++ [d]) = if d = 0 then trim x else x ++ [d]
 | [] => by by_cases h : d = 0 <;> simp [trim, h]
 | e :: t => by
  have ih := trim_snoc d t
  by_cases h : d = 0
  ·rw [if_pos h] at ih ⊢
   simp only [List.cons_append, trim, ih]
  ·rw [if_neg h] at ih ⊢
   simp only [List.cons_append, trim, ih]
   simp
theorem take_cut : ∀ (l : List Int) (n : Nat), n ≤ l.length → l.take (cutN l n) = trim (l.take n)
 | l, 0, _ => by simp [cutN, trim]
 | l, n + 1, h => by
  have ih := take_cut l n (by omega)
  have e : l.take (n + 1) = l.take n ++ [l.getD n 0] := by
   rw [List.take_add_one]; congr 1
   simp [List.getElem?_eq_getElem (show n < l.length by omega)]
  rw [e, trim_snoc]
  unfold cutN
  by_cases hd : l.getD n 0 = 0
  ·rw [if_pos hd, if_pos hd, ih]
  ·rw [if_neg hd, if_neg hd, ← e]
theorem cutL_trim (l : List Int) : cutL l = trim l := by
 unfold cutL; rw [take_cut l _ (Nat.le_refl _), List.take_length]
theorem trim_dg : ∀ {l : List Int}, Dig l → trim l = dg (val l).toNat
 | [], _ => by simp [trim, val, dg_zero]
 | d :: t, h => by
  have h1 := (dig_cons.1 h).1
  have h2 := val_nonneg (dig_cons.1 h).2
  have ih := trim_dg (dig_cons.1 h).2
  simp only [trim, ih, val]
  by_cases hz : d + 10 * val t = 0
  ·rw [hz]
   have a : d = 0 := by omega
   have b : val t = 0 := by omega
   rw [if_pos ⟨a, by rw [b]; exact dg_zero⟩]; exact dg_zero.symm
  ·have hn : (d + 10 * val t).toNat ≠ 0 := by omega
   rw [dg_pos hn]
   have e1 : (((d + 10 * val t).toNat % 10 : Nat) : Int) = d := by omega
   have e2 : (d + 10 * val t).toNat / 10 = (val t).toNat := by omega
   rw [e1, e2, if_neg]
   rintro ⟨a, b⟩
   rw [dg_nil] at b
   omega
theorem cut_dg {l : List Int} (h : Dig l) : cutL l = dg (val l).toNat := by rw [cutL_trim, trim_dg h]
theorem cut_dg' {l : List Int} (h : Dig l) {n : Nat} (hv : val l = n) : cutL l = dg n := by rw [cut_dg h, hv, Int.toNat_natCast]
theorem val_drop (l : List Int) (i : Nat) : val (l.drop i) = l.getD i 0 + 10 * val (l.drop (i + 1)) := by
 by_cases h : i < l.length
 ·rw [List.drop_eq_getElem_cons h]
  simp [val, List.getElem?_eq_getElem h]
 ·rw [List.drop_eq_nil_of_le (by omega), List.drop_eq_nil_of_le (by omega)]
  simp [val, List.getElem?_eq_none (show l.length ≤ i by omega)]
theorem getD_dig {l : List Int} (h : Dig l) (i : Nat) : 0 ≤ l.getD i 0 ∧ l.getD i 0 ≤ 9 := by
 by_cases hi : i < l.length
 ·have : l.getD i 0 = l[i] := by simp [List.getElem?_eq_getElem hi]
  rw [this]; exact h _ (List.getElem_mem hi)
 ·have : l.getD i 0 = 0 := by simp [List.getElem?_eq_none (show l.length ≤ i by omega)]
  omega
theorem lt_of_drop {a b : List Int} (ha : Dig a) (hb : Dig b) : ∀ i : Nat, val (a.drop i) < val (b.drop i) → val a < val b
 | 0, h => by simpa using h
 | i + 1, h => by
  have := getD_dig ha i
  have := getD_dig hb i
  refine lt_of_drop ha hb i ?_
  rw [val_drop a i, val_drop b i]; omega
theorem val_beyond {l : List Int} {i : Nat} (h : l.length ≤ i) : val (l.drop i) = 0 := by
 rw [List.drop_eq_nil_of_le h]; rfl
theorem wrap64_in {x : Int} (h : -9223372036854775808 ≤ x) (h2 : x < 9223372036854775808) : wrap64 x = x := by
 unfold wrap64; omega
def Frm {α : Type} (g : Nat → Option α) (r : α) : Prop := ∃ k0, ∀ k, k0 ≤ k → g k = some r
theorem Frm.succ {α : Type} {g : Nat → Option α} {r : α} (h : Frm (fun k => g (k + 1)) r) : Frm g r := by
 obtain ⟨k0, h⟩ := h
 refine ⟨k0 + 1, fun k hk => ?_⟩
 obtain ⟨j, rfl⟩ : ∃ j, k = j + 1 := ⟨k - 1, by omega⟩
 exact h j (by omega)
theorem Frm.const {α : Type} {g : Nat → Option α} {r : α} (h : ∀ k, g k = some r) : Frm g r := ⟨0, fun k _ => h k⟩
theorem Frm.congr {α : Type} {g g' : Nat → Option α} {r : α} (h : Frm g r) (e : ∀ k, g' k = g k) : Frm g' r := by
 obtain ⟨k0, h⟩ := h; exact ⟨k0, fun k hk => by rw [e, h k hk]⟩
theorem Frm.bind {α β : Type} {g : Nat → Option α} {x : α} {f : Nat → α → Option β} {r : β} (h : Frm g x) (h2 : Frm (fun k => f k x) r) : Frm (fun k => (g k).bind (f k)) r := by
 obtain ⟨k0, h⟩ := h; obtain ⟨k1, h2⟩ := h2
 refine ⟨max k0 k1, fun k hk => ?_⟩
 have := h k (by omega)
 show (g k).bind (f k) = some r
 rw [this]; exact h2 k (by omega)
end Go.Proofs.YtbpjnkeilhfajaaGreat.Dig
end

section
/- Plain arithmetic of 64 and 128 bits. -/
namespace Go.Proofs.YtbpjnkeilhfajaaGreat.Num
theorem and32 {x : Int} (h : 0 ≤ x) (h2 : x < 18446744073709551616) : bits .and .u64 x 4294967295 = x % 4294967296 :=
 bits_mask .u64 64 (by decide) (fun n h0 h1 => by rw [IntKind.wrap_u64]; omega) 32 (by decide) x h h2
theorem mul_bound {a b m n : Int} (ha : 0 ≤ a) (ha2 : a ≤ m) (hb : 0 ≤ b) (hb2 : b ≤ n) : 0 ≤ a * b ∧ a * b ≤ m * n :=
 ⟨Int.mul_nonneg ha hb, Int.mul_le_mul ha2 hb2 hb (by omega)⟩
theorem mul_lo {x y : Int} : IntKind.u64.wrap (x * y) = x * y % 18446744073709551616 := by rw [IntKind.wrap_u64]
theorem mul_hi {x y : Int} (hx : 0 ≤ x) (hx2 : x < 18446744073709551616) (hy : 0 ≤ y) (hy2 : y < 18446744073709551616) :
  IntKind.u64.wrap
   (IntKind.u64.wrap
     (IntKind.u64.wrap (x / 4294967296 * (y / 4294967296)) +
      IntKind.u64.wrap
        (IntKind.u64.wrap (x / 4294967296 * bits BinOp.and .u64 y 4294967295) +
         IntKind.u64.wrap (bits BinOp.and .u64 x 4294967295 * bits BinOp.and .u64 y 4294967295) / 4294967296) /
       4294967296) +
    IntKind.u64.wrap
      (bits BinOp.and .u64
        (IntKind.u64.wrap
         (IntKind.u64.wrap (x / 4294967296 * bits BinOp.and .u64 y 4294967295) +
          IntKind.u64.wrap (bits BinOp.and .u64 x 4294967295 * bits BinOp.and .u64 y 4294967295) / 4294967296))
        4294967295 +
       IntKind.u64.wrap (bits BinOp.and .u64 x 4294967295 * (y / 4294967296))) /
     4294967296) = x * y / 18446744073709551616 := by
 rw [and32 hx hx2, and32 hy hy2]
 have hxe : x = x / 4294967296 * 4294967296 + x % 4294967296 := by omega
 have hye : y = y / 4294967296 * 4294967296 + y % 4294967296 := by omega
 have x10 : 0 ≤ x / 4294967296 := by omega
 have x11 : x / 4294967296 ≤ 4294967295 := by omega
 have x00 : 0 ≤ x % 4294967296 := by omega
 have x01 : x % 4294967296 ≤ 4294967295 := by omega
 have y10 : 0 ≤ y / 4294967296 := by omega
 have y11 : y / 4294967296 ≤ 4294967295 := by omega
 have y00 : 0 ≤ y % 4294967296 := by omega
 have y01 : y % 4294967296 ≤ 4294967295 := by omega
 generalize x / 4294967296 = a at *
 generalize x % 4294967296 = b at *
 generalize y / 4294967296 = c at *
 generalize y % 4294967296 = d at *
 have hp : x * y = a * c * 18446744073709551616 + (a * d + b * c) * 4294967296 + b * d := by rw [hxe, hye]; grind
 rw [hp]
 obtain ⟨p0, p1⟩ := mul_bound x10 x11 y10 y11
 obtain ⟨q0, q1⟩ := mul_bound x10 x11 y00 y01
 obtain ⟨r0, r1⟩ := mul_bound x00 x01 y10 y11
 obtain ⟨s0, s1⟩ := mul_bound x00 x01 y00 y01
 generalize a * c = p at *
 generalize a * d = q at *
 generalize b * c = r at *
 generalize b * d = s at *
 have f1 : IntKind.u64.wrap (IntKind.u64.wrap q + IntKind.u64.wrap s / 4294967296) = q + s / 4294967296 := by simp only [IntKind.wrap_u64]; omega
 rw [f1, and32 (by omega) (by omega)]
 simp only [IntKind.wrap_u64]
 omega
def HInv (u v1 q r Q : Int) : Prop := 0 ≤ q ∧ q ≤ 4294967297 ∧ 0 ≤ r ∧ r < 4294967296 ∧ q * v1 + r = u ∧ Q ≤ q
structure Half (u v1 v0 Y d Q : Int) : Prop where
 hY : Y = v1 * 4294967296 + v0
 h1 : 2147483648 ≤ v1
 h1' : v1 < 4294967296
 h0 : 0 ≤ v0
 h0' : v0 < 4294967296
 hu : 0 ≤ u
 hu' : u < Y
 hd : 0 ≤ d
 hd' : d < 4294967296
 hQ : Q = (u * 4294967296 + d) / Y
section
variable {u v1 v0 Y d q r Q : Int}
theorem half_le (H : Half u v1 v0 Y d Q) : q ≤ Q ↔ q * v1 * 4294967296 + q * v0 ≤ u * 4294967296 + d := by
 obtain ⟨hY, h1, h1', h0, h0', hu, hu', hd, hd', hQ⟩ := H
 rw [hQ, Int.le_ediv_iff_mul_le (by omega)]
 have : q * Y = q * v1 * 4294967296 + q * v0 := by rw [hY]; grind
 rw [this]
theorem half_start (H : Half u v1 v0 Y d Q) (hq : q = u / v1) (hr : r = u % v1) : HInv u v1 q r Q := by
 have H' := H
 obtain ⟨hY, h1, h1', h0, h0', hu, hu', hd, hd', hQ⟩ := H
 have e : q * v1 + r = u := by rw [hq, hr]; have := Int.mul_ediv_add_emod u v1; grind
 have r0 : 0 ≤ r := by rw [hr]; exact Int.emod_nonneg _ (by omega)
 have r1 : r < v1 := by rw [hr]; exact Int.emod_lt_of_pos _ (by omega)
 have q0 : 0 ≤ q := by rw [hq]; exact Int.ediv_nonneg hu (by omega)
 have q1 : q ≤ 4294967297 := by
  rw [hq]
  have : u / v1 < 4294967298 := by
   rw [Int.ediv_lt_iff_lt_mul (by omega)]
   omega
  omega
 refine ⟨q0, q1, r0, by omega, e, ?_⟩
 have hn : ¬ (q + 1 ≤ Q) := by
  rw [half_le H']
  have a1 : (q + 1) * v1 = q * v1 + v1 := by grind
  have a2 : 0 ≤ (q + 1) * v0 := Int.mul_nonneg (by omega) h0
  rw [a1]
  omega
 omega
theorem half_more (H : Half u v1 v0 Y d Q) (hi : HInv u v1 q r Q) (hc : 4294967296 ≤ q ∨ 4294967296 * r + d < q * v0) :
  1 ≤ q ∧ Q ≤ q - 1 ∧ (q - 1) * v1 + (r + v1) = u ∧ (4294967296 ≤ r + v1 → q - 1 = Q) := by
 have H' := H
 obtain ⟨hY, h1, h1', h0, h0', hu, hu', hd, hd', hQ⟩ := H
 obtain ⟨q0, q1, r0, r1, e, hl⟩ := hi
 have hlt : Q < q := by
  rcases hc with hc | hc
  ·have hn : ¬ (4294967296 ≤ Q) := by
    rw [half_le H']
    omega
   omega
  ·have hn : ¬ (q ≤ Q) := by
    rw [half_le H']
    omega
   omega
 have q2 : 1 ≤ q := by
  have : 0 ≤ Q := by rw [hQ]; exact Int.ediv_nonneg (by omega) (by omega)
  omega
 have e2 : (q - 1) * v1 + (r + v1) = u := by rw [← e]; grind
 refine ⟨q2, by omega, e2, fun hb => ?_⟩
 have : q - 1 ≤ Q := by
  rw [half_le H']
  have b := (mul_bound (a := q - 1) (b := v0) (m := 4294967296) (n := 4294967295) (by omega) (by omega) h0 (by omega)).2
  omega
 omega
theorem half_stop (H : Half u v1 v0 Y d Q) (hi : HInv u v1 q r Q) (hc2 : q * v0 ≤ 4294967296 * r + d) : q = Q := by
 obtain ⟨q0, q1, r0, r1, e, hl⟩ := hi
 have : q ≤ Q := by
  rw [half_le H]
  omega
 omega
theorem half_mul (h0 : 0 ≤ v0) (h0' : v0 < 4294967296) (hc : 0 ≤ q) (hc2 : q < 4294967296) : 0 ≤ q * v0 ∧ q * v0 < 18446744073709551616 := by
 have := mul_bound hc (show q ≤ 4294967295 by omega) h0 (show v0 ≤ 4294967295 by omega)
 omega
end
theorem bitLen_spec : ∀ (n x : Nat), x ≤ n → x ≠ 0 → x < 2 ^ 64 → 1 ≤ Lib.bitLen x ∧ 2 ^ (Lib.bitLen x - 1) ≤ x ∧ x < 2 ^ Lib.bitLen x := by
 intro n
 induction n with
 | zero => intro x h1 h2; omega
 | succ n ih =>
  intro x h1 h2 h3
  rw [Lib.bitLen_half x h2 h3]
  by_cases hx : x / 2 = 0
  ·have : x = 1 := by omega
   subst this
   decide
  ·obtain ⟨a, b, c⟩ := ih (x / 2) (by omega) hx (by omega)
   refine ⟨by omega, ?_, ?_⟩
   ·rw [show 1 + Lib.bitLen (x / 2) - 1 = (Lib.bitLen (x / 2) - 1) + 1 from by omega, Nat.pow_succ]
    omega
   ·rw [Nat.pow_add]
    omega
theorem bitLen_le {x : Nat} (h : x < 2 ^ 64) : Lib.bitLen x ≤ 64 := by
 by_cases h0 : x = 0
 ·subst h0; decide
 ·obtain ⟨a, b, c⟩ := bitLen_spec x x (Nat.le_refl _) h0 h
  by_cases hb : Lib.bitLen x ≤ 64
  ·exact hb
  ·have : 2 ^ 64 ≤ 2 ^ (Lib.bitLen x - 1) := Nat.pow_le_pow_right (by decide) (by omega)
   omega
theorem norm_facts {y : Int} (h0 : 0 < y) (h : y < 18446744073709551616) :
  0 ≤ 64 - (Lib.bitLen y.toNat : Int) ∧ 64 - (Lib.bitLen y.toNat : Int) < 64 ∧ 9223372036854775808 ≤ y * 2 ^ (64 - (Lib.bitLen y.toNat : Int)).toNat ∧ y * 2 ^ (64 - (Lib.bitLen y.toNat : Int)).toNat < 18446744073709551616 ∧
  (2 : Int) ^ (64 - (Lib.bitLen y.toNat : Int)).toNat * 2 ^ (64 - (64 - (Lib.bitLen y.toNat : Int))).toNat = 18446744073709551616 := by
 obtain ⟨x, rfl⟩ := Int.eq_ofNat_of_zero_le (Int.le_of_lt h0)
 have hx : x < 2 ^ 64 := by omega
 obtain ⟨a, b, c⟩ := bitLen_spec x x (Nat.le_refl _) (by omega) hx
 have d := bitLen_le hx
 simp only [Int.toNat_natCast]
 have e1 : (64 - (Lib.bitLen x : Int)).toNat = 64 - Lib.bitLen x := by omega
 have e2 : (64 - (64 - (Lib.bitLen x : Int))).toNat = Lib.bitLen x := by omega
 rw [e1, e2]
 have p1 : 2 ^ (Lib.bitLen x - 1) * 2 ^ (64 - Lib.bitLen x) = 9223372036854775808 := by rw [← Nat.pow_add, show Lib.bitLen x - 1 + (64 - Lib.bitLen x) = 63 from by omega]
 have p2 : 2 ^ (64 - Lib.bitLen x) * 2 ^ (Lib.bitLen x) = 18446744073709551616 := by rw [← Nat.pow_add, show 64 - Lib.bitLen x + Lib.bitLen x = 64 from by omega]
 have q1 := Nat.mul_le_mul_right (2 ^ (64 - Lib.bitLen x)) b
 have q2 := (Nat.mul_lt_mul_right (a := 2 ^ (64 - Lib.bitLen x)) (Nat.pow_pos (by decide))).2 c
 rw [p1] at q1
 rw [Nat.mul_comm (2 ^ Lib.bitLen x), p2] at q2
 have k1 : (x : Int) * 2 ^ (64 - Lib.bitLen x) = ((x * 2 ^ (64 - Lib.bitLen x) : Nat) : Int) := by rw [Int.natCast_mul, Int.natCast_pow]; rfl
 have k2 : (2 : Int) ^ (64 - Lib.bitLen x) * 2 ^ (Lib.bitLen x) = ((2 ^ (64 - Lib.bitLen x) * 2 ^ (Lib.bitLen x) : Nat) : Int) := by rw [Int.natCast_mul, Int.natCast_pow, Int.natCast_pow]; rfl
 rw [k1, k2, p2]
 generalize x * 2 ^ (64 - Lib.bitLen x) = z at *
 exact ⟨by omega, by omega, by omega, by omega, rfl⟩
theorem half_rest {u v1 v0 Y d Q : Int} (H : Half u v1 v0 Y d Q) : 0 ≤ Q ∧ Q < 4294967296 ∧ 0 ≤ u * 4294967296 + d - Q * Y ∧ u * 4294967296 + d - Q * Y < Y := by
 obtain ⟨hY, h1, h1', h0, h0', hu, hu', hd, hd', hQ⟩ := H
 have e := Int.mul_ediv_add_emod (u * 4294967296 + d) Y
 have r0 := Int.emod_nonneg (u * 4294967296 + d) (show Y ≠ 0 by omega)
 have r1 := Int.emod_lt_of_pos (u * 4294967296 + d) (show 0 < Y by omega)
 rw [← hQ, Int.mul_comm] at e
 refine ⟨?_, ?_, by omega, by omega⟩
 ·rw [hQ]; exact Int.ediv_nonneg (by omega) (by omega)
 ·rw [hQ, Int.ediv_lt_iff_lt_mul (by omega)]; omega
end Go.Proofs.YtbpjnkeilhfajaaGreat.Num
end

section
/- Contracts of num's wide numbers: of, neg, product, less, plus. -/
namespace Go.Proofs
theorem Z2c0 {p : Prop} (h : p := by repeat (first | exact Below.refl _ _ | with_reducible assumption | refine Below.alloc ?_ (by first | exact Nat.le_refl _ | (simp; done) | (simp; omega) | omega) _ | refine Below.setCell ?_ (by first | exact Nat.le_refl _ | (simp; done) | (simp; omega) | omega) _ | refine Below.drew ?_ | refine bdrewN ?_ _)) : p := h
theorem Z2c1 {p : Prop} (h : p := by simp [results, Tryz.results66, go_sem, W]) : p := h
end Go.Proofs
namespace Go.Proofs.YtbpjnkeilhfajaaGreat.Num
open Go.RowKit
set_option linter.unusedVariables false
set_option linter.unusedSimpArgs false
def WV (x : Int) (b : Bool) (h l : Int) : Prop := 0 ≤ h ∧ h < 18446744073709551616 ∧ 0 ≤ l ∧ l < 18446744073709551616 ∧ x = if b = true then -(h * 18446744073709551616 + l) else h * 18446744073709551616 + l
@[reducible, go_sem] def W (b : Bool) (h l : Int) : Value := .agg #[.bool b, .int .u64 h, .int .u64 l]
def IsW (x : Int) (v : Value) : Prop := ∃ b h l, v = W b h l ∧ WV x b h l
theorem of_any (a : Int) (w : World) (h : -9223372036854775808 ≤ a) (h2 : a < 9223372036854775808) :
  Calls Tryz.prog 113 #[.int .i64 a] w fun e w' => e = .returned (W (decide (a < 0)) 0 (sz a)) ∧ Below w.heap.size w w' := by
 go_enter Tryz.func113, Tryz.ntmps113
 go_wp2_with (go_at_call 63; refine (size_any _ _ h h2).mono ?_; rintro e w' ⟨rfl, rfl⟩)
 exact bodyPost_ret (v := W (decide (a < 0)) 0 (sz a)) (by simp [results, Tryz.results113, go_sem, W]) rfl ⟨rfl, Z2c0⟩
theorem neg_any (b : Bool) (h l : Int) (w : World) :
  Calls Tryz.prog 67 #[W b h l] w fun e w' => e = .returned (W (!b) h l) ∧ w' = (w.alloc (.cells #[.bool b, .int .u64 h, .int .u64 l] 83)).alloc (.cells #[.bool (!b), .int .u64 h, .int .u64 l] 83) := by
 unfold W
 go_enter Tryz.func67, Tryz.ntmps67
 go_wp2
 exact bodyPost_ret (v := W (!b) h l) (by simp [results, Tryz.results67, go_sem, W]) rfl ⟨rfl, rfl⟩
theorem less_any (b h l b2 h2 l2) (w : World) :
  Calls Tryz.prog 106 #[W b h l, W b2 h2 l2] w fun e w' => e = .returned (.bool (decide (h < h2 ∨ (h = h2 ∧ l < l2)))) ∧ w' = (w.alloc (.cells #[.bool b, .int .u64 h, .int .u64 l] 83)).alloc (.cells #[.bool b2, .int .u64 h2, .int .u64 l2] 83) := by
 unfold W
 by_cases c1 : h < h2
 ·have e1 : decide (h < h2) = true := decide_eq_true c1
  have hf : decide (h < h2 ∨ (h = h2 ∧ l < l2)) = true := decide_eq_true (.inl c1)
  rw [hf]
  clear hf
  go_enter Tryz.func106, Tryz.ntmps106
  go_wp2
  go_ret
  exact ⟨rfl, rfl⟩
 ·have e1 : decide (h < h2) = false := decide_eq_false c1
  by_cases c2 : h = h2
  ·subst c2
   have hf : decide (h < h ∨ (h = h ∧ l < l2)) = decide (l < l2) := by simp
   rw [hf]
   clear hf
   go_enter Tryz.func106, Tryz.ntmps106
   go_wp2
   go_ret
   exact ⟨rfl, rfl⟩
  ·have e2 : (h == h2) = false := beq_eq_false_iff_ne.2 c2
   have hf : decide (h < h2 ∨ (h = h2 ∧ l < l2)) = false := decide_eq_false (by rintro (x | x); exact c1 x; exact c2 x.1)
   rw [hf]
   clear hf c2
   go_enter Tryz.func106, Tryz.ntmps106
   go_wp2
   go_ret
   exact ⟨rfl, rfl⟩
theorem mul64_any (x y : Int) (w : World) (hx : 0 ≤ x) (hx2 : x < 18446744073709551616) (hy : 0 ≤ y) (hy2 : y < 18446744073709551616) :
  Calls Tryz.prog 104 #[.int .u64 x, .int .u64 y] w fun e w' => e = .returned (.tuple #[.int .u64 (x * y / 18446744073709551616), .int .u64 (x * y % 18446744073709551616)]) ∧ w' = w := by
 have H := Lib.hid (mul_hi hx hx2 hy hy2)
 go_enter Tryz.func104, Tryz.ntmps104
 go_wp2
 go_ret2
 exact ⟨congrArg Ending.returned (congrArg Value.tuple (by rw [show x * y / 18446744073709551616 = _ from H.out.symm, ← mul_lo]; rfl)), rfl⟩
def sg (a b : Int) : Bool := decide (a < 0) != decide (b < 0)
theorem product_any (a b : Int) (w : World) (h : -9223372036854775808 ≤ a) (h2 : a < 9223372036854775808) (k : -9223372036854775808 ≤ b) (k2 : b < 9223372036854775808) :
  Calls Tryz.prog 65 #[.int .i64 a, .int .i64 b] w fun e w' =>
   e = .returned (W (sg a b) (sz a * sz b / 18446744073709551616) (sz a * sz b % 18446744073709551616)) ∧ w' = w.alloc (.cells #[.bool (sg a b), .int .u64 (sz a * sz b / 18446744073709551616), .int .u64 (sz a * sz b % 18446744073709551616)] 83) := by
 have a1 := sz_nonneg a
 have a2 := sz_le h h2
 have b1 := sz_nonneg b
 have b2 := sz_le k k2
 go_enter Tryz.func65, Tryz.ntmps65
 go_wp2_with fail
 refine (size_any _ _ h h2).mono ?_
 rintro e w' ⟨rfl, rfl⟩
 go_wp2_with fail
 refine (size_any _ _ k k2).mono ?_
 rintro e w' ⟨rfl, rfl⟩
 go_wp2_with fail
 refine (mul64_any _ _ _ a1 (by omega) b1 (by omega)).mono ?_
 rintro e w' ⟨rfl, rfl⟩
 go_wp2
 exact bodyPost_ret (v := W (sg a b) (sz a * sz b / 18446744073709551616) (sz a * sz b % 18446744073709551616)) (by simp [results, Tryz.results65, go_sem, W, sg] <;> cases decide (a < 0) <;> cases decide (b < 0) <;> rfl) rfl ⟨rfl, by simp [sg] <;> cases decide (a < 0) <;> cases decide (b < 0) <;> rfl⟩
theorem run_add (x y c : Int) (hx : 0 ≤ x) (hy : 0 ≤ y) (hc0 : 0 ≤ c) (hc : c ≤ 1) (w : World) :
  (callFunc 105 #[.int .u64 x, .int .u64 y, .int .u64 c]).run Tryz.prog w =
   .ok (.value (.tuple #[.int .u64 ((x + y + c) % 18446744073709551616), .int .u64 ((x + y + c) / 18446744073709551616)])) w := by
 rw [run_callFunc_extern Tryz.func105 (by kernel_rfl) (by kernel_rfl) (by kernel_rfl) (e := add64Entry) (by kernel_rfl), run_add64 x y c hx hy hc0 hc]
 rfl
theorem run_sub (x y b : Int) (hx : 0 ≤ x) (hy : 0 ≤ y) (hy2 : y < 18446744073709551616) (hc0 : 0 ≤ b) (hc : b ≤ 1) (w : World) :
  (callFunc 107 #[.int .u64 x, .int .u64 y, .int .u64 b]).run Tryz.prog w =
   .ok (.value (.tuple #[.int .u64 ((x - y - b) % 18446744073709551616), .int .u64 (if x < y + b then 1 else 0)])) w := by
 obtain ⟨X, rfl⟩ := Int.eq_ofNat_of_zero_le hx
 obtain ⟨Y, rfl⟩ := Int.eq_ofNat_of_zero_le hy
 obtain ⟨B, rfl⟩ := Int.eq_ofNat_of_zero_le hc0
 rw [run_callFunc_extern Tryz.func107 (by kernel_rfl) (by kernel_rfl) (by kernel_rfl) (e := Go.Proofs.sub64Entry) (by kernel_rfl), Go.Proofs.run_sub64 X Y B (by omega)]
 simp only [Result.andThen]
 have e1 : (((X + 18446744073709551616 - Y - B) % 18446744073709551616 : Nat) : Int) = ((X : Int) - Y - B) % 18446744073709551616 := by omega
 have e2 : ((if X < Y + B then 1 else 0 : Nat) : Int) = if (X : Int) < Y + B then 1 else 0 := by
  by_cases h : X < Y + B
  ·rw [if_pos h, if_pos (by omega)]; rfl
  ·rw [if_neg h, if_neg (by omega)]; rfl
 rw [e1, e2]
theorem plus_same (b : Bool) (h l h2 l2 : Int) (w : World) (h0 : 0 ≤ h) (l0 : 0 ≤ l) (l1 : l < 18446744073709551616) (k0 : 0 ≤ h2) (m0 : 0 ≤ l2) (m1 : l2 < 18446744073709551616) :
  Calls Tryz.prog 66 #[W b h l, W b h2 l2] w fun e w' =>
   e = .returned (W b ((h + h2 + (l + l2) / 18446744073709551616) % 18446744073709551616) ((l + l2) % 18446744073709551616)) ∧ Below w.heap.size w w' := by
 unfold W
 have r1 := run_add l l2 0 l0 m0 (by omega) (by omega)
 rw [Int.add_zero] at r1
 have r2 := run_add h h2 ((l + l2) / 18446744073709551616) h0 k0 (by omega) (by omega)
 go_enter Tryz.func66, Tryz.ntmps66
 go_wp2
 exact bodyPost_ret (v := W b ((h + h2 + (l + l2) / 18446744073709551616) % 18446744073709551616) ((l + l2) % 18446744073709551616)) Z2c1 rfl ⟨rfl, Z2c0⟩
theorem plus_less (b : Bool) (h l h2 l2 : Int) (w : World) (h0 : 0 ≤ h) (h1 : h < 18446744073709551616) (l0 : 0 ≤ l) (l1 : l < 18446744073709551616) (k0 : 0 ≤ h2) (m0 : 0 ≤ l2) (m1 : l2 < 18446744073709551616) (hlt : h < h2 ∨ (h = h2 ∧ l < l2)) :
  Calls Tryz.prog 66 #[W b h l, W (!b) h2 l2] w fun e w' =>
   e = .returned (W (!b) ((h2 - h - (if l2 < l then 1 else 0)) % 18446744073709551616) ((l2 - l) % 18446744073709551616)) ∧ Below w.heap.size w w' := by
 have hd : decide (h < h2 ∨ (h = h2 ∧ l < l2)) = true := decide_eq_true hlt
 have hb : (b == !b) = false := by cases b <;> rfl
 have r1 := run_sub l2 l 0 m0 l0 l1 (by omega) (by omega)
 rw [Int.sub_zero, Int.add_zero] at r1
 have r2 := run_sub h2 h (if l2 < l then 1 else 0) k0 h0 h1 (by split <;> omega) (by split <;> omega)
 have H := Lib.hid (show ∃ c : Int, (if l2 < l then 1 else 0) = c from ⟨_, rfl⟩)
 obtain ⟨c, hc⟩ := H.out
 clear H
 rw [hc] at r1 r2 ⊢
 have hc' := Lib.hid hc
 clear hc hlt
 generalize (if h2 < h + c then (1 : Int) else 0) = c2 at r2
 have hless := fun W0 => less_any b h l (!b) h2 l2 W0
 rw [hd] at hless
 have hless' := Lib.hid hless
 clear hless hd
 unfold W
 go_enter Tryz.func66, Tryz.ntmps66
 go_wp2_with fail
 refine (hless'.out _).mono ?_
 rintro e w1 ⟨rfl, rfl⟩
 go_wp2
 exact bodyPost_ret (v := W (!b) ((h2 - h - c) % 18446744073709551616) ((l2 - l) % 18446744073709551616)) Z2c1 rfl ⟨rfl, Z2c0⟩
theorem plus_more (b : Bool) (h l h2 l2 : Int) (w : World) (h0 : 0 ≤ h) (h1 : h < 18446744073709551616) (l0 : 0 ≤ l) (l1 : l < 18446744073709551616) (k0 : 0 ≤ h2) (k1 : h2 < 18446744073709551616) (m0 : 0 ≤ l2) (m1 : l2 < 18446744073709551616) (hlt : ¬ (h < h2 ∨ (h = h2 ∧ l < l2))) :
  Calls Tryz.prog 66 #[W b h l, W (!b) h2 l2] w fun e w' =>
   e = .returned (W b ((h - h2 - (if l < l2 then 1 else 0)) % 18446744073709551616) ((l - l2) % 18446744073709551616)) ∧ Below w.heap.size w w' := by
 have hd : decide (h < h2 ∨ (h = h2 ∧ l < l2)) = false := decide_eq_false hlt
 have hb : (b == !b) = false := by cases b <;> rfl
 have r1 := run_sub l l2 0 l0 m0 m1 (by omega) (by omega)
 rw [Int.sub_zero, Int.add_zero] at r1
 have r2 := run_sub h h2 (if l < l2 then 1 else 0) h0 k0 k1 (by split <;> omega) (by split <;> omega)
 have H := Lib.hid (show ∃ c : Int, (if l < l2 then 1 else 0) = c from ⟨_, rfl⟩)
 obtain ⟨c, hc⟩ := H.out
 clear H
 rw [hc] at r1 r2 ⊢
 have hc' := Lib.hid hc
 clear hc hlt
 generalize (if h < h2 + c then (1 : Int) else 0) = c2 at r2
 have hless := fun W0 => less_any b h l (!b) h2 l2 W0
 rw [hd] at hless
 have hless' := Lib.hid hless
 clear hless hd
 unfold W
 go_enter Tryz.func66, Tryz.ntmps66
 go_wp2_with fail
 refine (hless'.out _).mono ?_
 rintro e w1 ⟨rfl, rfl⟩
 go_wp2
 exact bodyPost_ret (v := W b ((h - h2 - c) % 18446744073709551616) ((l - l2) % 18446744073709551616)) Z2c1 rfl ⟨rfl, Z2c0⟩
theorem plus_any (x y : Int) (b h l b2 h2 l2) (w : World) (hx : WV x b h l) (hy : WV y b2 h2 l2)
  (hr : h * 18446744073709551616 + l + (h2 * 18446744073709551616 + l2) < 340282366920938463463374607431768211456) :
  Calls Tryz.prog 66 #[W b h l, W b2 h2 l2] w fun e w' => (∃ b3 h3 l3, e = .returned (W b3 h3 l3) ∧ WV (x + y) b3 h3 l3) ∧ Below w.heap.size w w' := by
 obtain ⟨h0, h1, l0, l1, hx⟩ := hx
 obtain ⟨k0, k1, m0, m1, hy⟩ := hy
 by_cases hb : b = b2
 ·subst hb
  refine (plus_same b h l h2 l2 w h0 l0 l1 k0 m0 m1).mono ?_
  rintro e w' ⟨rfl, hw⟩
  refine ⟨⟨_, _, _, rfl, by omega, by omega, by omega, by omega, ?_⟩, hw⟩
  rw [hx, hy]
  split <;> omega
 ·obtain rfl : b2 = !b := by cases b <;> cases b2 <;> simp_all
  by_cases hlt : h < h2 ∨ (h = h2 ∧ l < l2)
  ·refine (plus_less b h l h2 l2 w h0 h1 l0 l1 k0 m0 m1 hlt).mono ?_
   rintro e w' ⟨rfl, hw⟩
   refine ⟨⟨_, _, _, rfl, by omega, by omega, by omega, by omega, ?_⟩, hw⟩
   rw [hx, hy]
   cases b <;> simp <;> split <;> omega
  ·refine (plus_more b h l h2 l2 w h0 h1 l0 l1 k0 k1 m0 m1 hlt).mono ?_
   rintro e w' ⟨rfl, hw⟩
   refine ⟨⟨_, _, _, rfl, by omega, by omega, by omega, by omega, ?_⟩, hw⟩
   rw [hx, hy]
   cases b <;> simp <;> split <;> omega
end Go.Proofs.YtbpjnkeilhfajaaGreat.Num
end

section
/- Contracts of num's 'fits' and what it catches. -/
namespace Go.Proofs
theorem Z2d0 {p : Prop} (h : p := by repeat (first | exact Below.refl _ _ | with_reducible assumption | refine Below.alloc ?_ (by first | exact Nat.le_refl _ | (simp; done) | (simp; omega) | omega) _ | refine Below.setCell ?_ (by first | exact Nat.le_refl _ | (simp; done) | (simp; omega) | omega) _ | refine Below.drew ?_ | refine bdrewN ?_ _)) : p := h
theorem Z2d1 {p : Prop} (h : p := by first | exact Nat.le_refl _ | (simp; done) | (simp; omega) | omega) : p := h
end Go.Proofs
namespace Go.Proofs.YtbpjnkeilhfajaaGreat.Num
open Go.RowKit
set_option linter.unusedVariables false
set_option linter.unusedSimpArgs false
theorem assert_large (w : World) : (Instr.typeAssert (.iface 115 (.agg #[])) 20 115 true).run Tryz.prog w = .ok (.tuple #[.agg #[], .bool true]) w := by kernel_rfl
theorem catch64_panicking (p q : Nat) (x0 : Int) (y0 : Bool) (w : World) (hp : w.cell? ⟨p, 0, none⟩ = some (.int .i64 x0)) (hz : w.frozen? ⟨p, 0, none⟩ = false) (hq : w.cell? ⟨q, 0, none⟩ = some (.bool y0)) (hzq : w.frozen? ⟨q, 0, none⟩ = false) (hpq : p ≠ q) (hpl : p < w.heap.size) (hql : q < w.heap.size) :
  CallsD Tryz.prog 135 #[.pointer (some ⟨p, 0, none⟩), .pointer (some ⟨q, 0, none⟩)] (.panicking LargeP) w fun e u' w' =>
   e = .returned (.tuple #[]) ∧ u' = .panicking [{ v := .iface 115 (.agg #[]), recovered := true }] ∧ w' = ((w.setCell ⟨p, 0, none⟩ (.int .i64 0)).setCell ⟨q, 0, none⟩ (.bool false)).alloc (.cells #[] 115) := by
 have ht := assert_large
 unfold LargeP
 refine callsD_of_wpS Tryz.func135 rfl fun c₀ cs hu => ?_
 apply wpS_seq
 apply wpS_region
 simp [wpOpsS, go_sem, recoverD, hu, Tryz.ntmps135, Exit.thenS]
 refine wpS_of_wp ?_
 go_wp2
 simp [bodyPostS, results, Tryz.results135]
theorem catch64_idle (p q : Value) (w : World) :
  CallsD Tryz.prog 135 #[p, q] .returning w fun e u' w' => e = .returned (.tuple #[]) ∧ u' = .returning ∧ w' = w := by
 refine callsD_of_wpS Tryz.func135 rfl fun c₀ cs hu => ?_
 apply wpS_seq
 apply wpS_region
 simp [wpOpsS, go_sem, recoverD, hu, Tryz.ntmps135, Exit.thenS]
 refine wpS_of_wp ?_
 go_wp2
 cases c₀
 simp_all [bodyPostS, results, Tryz.results135]
theorem run_makeFunc (fn : Fn) (first cap : Array Value) (w : World) : (Instr.makeFunc fn first cap).run Tryz.prog w = .ok (.func fn first cap) w := rfl
theorem fits64_ok (g : Nat) (first : Array Value) (n : Int) (w : World) (hcf : ∀ W, (callFunc g first).run Tryz.prog W = .ok (.enter g first) W) (h : ∀ W, Below w.heap.size w W → Calls Tryz.prog g first W fun e W' => e = .returned (.int .i64 n) ∧ Below W.heap.size W W') :
  Calls Tryz.prog 126 #[.func (.func g) first #[]] w fun e w' => e = .returned (.tuple #[.int .i64 n, .bool true]) ∧ Below w.heap.size w w' := by
 have hmf := run_makeFunc
 have H := Lib.hid h
 clear h
 go_enter_defers Tryz.func126, Tryz.ntmps126
 go_wp2_with fail
 refine (H.out _ Z2d0).mono ?_
 rintro e w1 ⟨rfl, hb1⟩
 obtain ⟨hc, hf⟩ := bcell hb1
 have hz := hb1.size
 have c1 : w1.cell? ⟨w.heap.size, 0, none⟩ = some (.int .i64 0) := by rw [hc _ _ Z2d1]; simp [go_sem]
 have c2 : w1.cell? ⟨w.heap.size + 1, 0, none⟩ = some (.bool false) := by rw [hc _ _ Z2d1]; simp [go_sem]
 have f1 : w1.frozen? ⟨w.heap.size, 0, none⟩ = false := by rw [hf _ _ Z2d1]; simp [go_sem]
 have f2 : w1.frozen? ⟨w.heap.size + 1, 0, none⟩ = false := by rw [hf _ _ Z2d1]; simp [go_sem]
 have hb2 : Below w.heap.size w w1 := (((Below.refl _ _).alloc (Nat.le_refl _) _).alloc (by simp) _).trans (hb1.mono (by simp; omega))
 simp at hz
 clear hc hf hb1
 go_wp2
 refine leaves_cons (f := 135) (args := #[.pointer (some ⟨w.heap.size, 0, none⟩), .pointer (some ⟨w.heap.size + 1, 0, none⟩)]) (by simp) (by simp [go_sem]) ?_
 refine (catch64_idle _ _ _).mono ?_
 rintro e u' w'' ⟨rfl, rfl, rfl⟩
 simp [Leaves, settle, results, Tryz.results126, go_sem, c1, c2]
 exact (hb2.setCell (by simp) _).setCell (by simp) _
theorem fits64_no (g : Nat) (first : Array Value) (w : World) (hcf : ∀ W, (callFunc g first).run Tryz.prog W = .ok (.enter g first) W) (h : ∀ W, Below w.heap.size w W → Calls Tryz.prog g first W fun e W' => e = .panicked LargeP ∧ Below W.heap.size W W') :
  Calls Tryz.prog 126 #[.func (.func g) first #[]] w fun e w' => e = .returned (.tuple #[.int .i64 0, .bool false]) ∧ Below w.heap.size w w' := by
 have hmf := run_makeFunc
 have H := Lib.hid h
 clear h
 go_enter_defers Tryz.func126, Tryz.ntmps126
 go_wp2_with fail
 refine (H.out _ Z2d0).mono ?_
 rintro e w1 ⟨rfl, hb1⟩
 obtain ⟨hc, hf⟩ := bcell hb1
 have hz := hb1.size
 have c1 : w1.cell? ⟨w.heap.size, 0, none⟩ = some (.int .i64 0) := by rw [hc _ _ Z2d1]; simp [go_sem]
 have c2 : w1.cell? ⟨w.heap.size + 1, 0, none⟩ = some (.bool false) := by rw [hc _ _ Z2d1]; simp [go_sem]
 have f1 : w1.frozen? ⟨w.heap.size, 0, none⟩ = false := by rw [hf _ _ Z2d1]; simp [go_sem]
 have f2 : w1.frozen? ⟨w.heap.size + 1, 0, none⟩ = false := by rw [hf _ _ Z2d1]; simp [go_sem]
 have hb2 : Below w.heap.size w w1 := (((Below.refl _ _).alloc (Nat.le_refl _) _).alloc (by simp) _).trans (hb1.mono (by simp; omega))
 simp at hz
 clear hc hf hb1
 go_wp2
 refine leaves_cons (f := 135) (args := #[.pointer (some ⟨w.heap.size, 0, none⟩), .pointer (some ⟨w.heap.size + 1, 0, none⟩)]) (by simp) (by simp [go_sem]) ?_
 refine (catch64_panicking _ _ 0 false _ c1 f1 c2 f2 (by omega) (by omega) (by omega)).mono ?_
 rintro e u' w'' ⟨rfl, rfl, rfl⟩
 have k1 : w.heap.size < w1.heap.size := by omega
 have k2 : w.heap.size + 1 < w1.heap.size := by omega
 simp [Leaves, settle, results, Tryz.results126, go_sem, c1, c2, k1, k2]
 exact ((hb2.setCell (by simp) _).setCell (by simp) _).alloc (by simp; omega) _
end Go.Proofs.YtbpjnkeilhfajaaGreat.Num
end

section
/- The same of 'fits' at rats. -/
namespace Go.Proofs
theorem Z2e0 {p : Prop} (h : p := by repeat (first | exact Below.refl _ _ | with_reducible assumption | refine Below.alloc ?_ (by first | exact Nat.le_refl _ | (simp; done) | (simp; omega) | omega) _ | refine Below.setCell ?_ (by first | exact Nat.le_refl _ | (simp; done) | (simp; omega) | omega) _ | refine Below.drew ?_ | refine bdrewN ?_ _)) : p := h
theorem Z2e1 {p : Prop} (h : p := by first | exact Nat.le_refl _ | (simp; done) | (simp; omega) | omega) : p := h
end Go.Proofs
namespace Go.Proofs.YtbpjnkeilhfajaaGreat.Num
open Go.RowKit
set_option linter.unusedVariables false
set_option linter.unusedSimpArgs false
theorem catchR_panicking (p q : Nat) (x0 x1 : Int) (y0 : Bool) (w : World) (hp : w.cell? ⟨p, 0, none⟩ = some (.int .i64 x0)) (hp1 : w.cell? ⟨p, 1, none⟩ = some (.int .i64 x1)) (hz1 : w.frozen? ⟨p, 1, none⟩ = false) (hz : w.frozen? ⟨p, 0, none⟩ = false) (hq : w.cell? ⟨q, 0, none⟩ = some (.bool y0)) (hzq : w.frozen? ⟨q, 0, none⟩ = false) (hpq : p ≠ q) (hpl : p < w.heap.size) (hql : q < w.heap.size) :
  CallsD Tryz.prog 102 #[.pointer (some ⟨p, 0, none⟩), .pointer (some ⟨q, 0, none⟩)] (.panicking LargeP) w fun e u' w' =>
   e = .returned (.tuple #[]) ∧ u' = .panicking [{ v := .iface 115 (.agg #[]), recovered := true }] ∧ w' = ((((w.setCell ⟨p, 0, none⟩ (.int .i64 0)).setCell ⟨p, 1, none⟩ (.int .i64 0)).setCell ⟨q, 0, none⟩ (.bool false)).alloc (.cells #[] 115)).alloc (.cells #[.int .i64 0, .int .i64 0] 28) := by
 have ht := assert_large
 unfold LargeP
 refine callsD_of_wpS Tryz.func102 rfl fun c₀ cs hu => ?_
 apply wpS_seq
 apply wpS_region
 simp [wpOpsS, go_sem, recoverD, hu, Tryz.ntmps102, Exit.thenS]
 refine wpS_of_wp ?_
 go_wp2
 simp [bodyPostS, results, Tryz.results102]
theorem catchR_idle (p q : Value) (w : World) :
  CallsD Tryz.prog 102 #[p, q] .returning w fun e u' w' => e = .returned (.tuple #[]) ∧ u' = .returning ∧ w' = w := by
 refine callsD_of_wpS Tryz.func102 rfl fun c₀ cs hu => ?_
 apply wpS_seq
 apply wpS_region
 simp [wpOpsS, go_sem, recoverD, hu, Tryz.ntmps102, Exit.thenS]
 refine wpS_of_wp ?_
 go_wp2
 cases c₀
 simp_all [bodyPostS, results, Tryz.results102]
theorem fitsR_ok (g : Nat) (first : Array Value) (n m : Int) (w : World) (hcf : ∀ W, (callFunc g first).run Tryz.prog W = .ok (.enter g first) W) (h : ∀ W, Below w.heap.size w W → Calls Tryz.prog g first W fun e W' => e = .returned (.agg #[.int .i64 n, .int .i64 m]) ∧ Below W.heap.size W W') :
  Calls Tryz.prog 60 #[.func (.func g) #[] first] w fun e w' => e = .returned (.tuple #[.agg #[.int .i64 n, .int .i64 m], .bool true]) ∧ Below w.heap.size w w' := by
 have hmf := run_makeFunc
 have H := Lib.hid h
 clear h
 go_enter_defers Tryz.func60, Tryz.ntmps60
 go_wp2_with fail
 refine (H.out _ Z2e0).mono ?_
 rintro e w1 ⟨rfl, hb1⟩
 obtain ⟨hc, hf⟩ := bcell hb1
 have hz := hb1.size
 have c1 : w1.cell? ⟨w.heap.size, 0, none⟩ = some (.int .i64 0) := by rw [hc _ _ Z2e1]; simp [go_sem]
 have c11 : w1.cell? ⟨w.heap.size, 1, none⟩ = some (.int .i64 0) := by rw [hc _ _ Z2e1]; simp [go_sem]
 have f11 : w1.frozen? ⟨w.heap.size, 1, none⟩ = false := by rw [hf _ _ Z2e1]; simp [go_sem]
 have c2 : w1.cell? ⟨w.heap.size + 1, 0, none⟩ = some (.bool false) := by rw [hc _ _ Z2e1]; simp [go_sem]
 have f1 : w1.frozen? ⟨w.heap.size, 0, none⟩ = false := by rw [hf _ _ Z2e1]; simp [go_sem]
 have f2 : w1.frozen? ⟨w.heap.size + 1, 0, none⟩ = false := by rw [hf _ _ Z2e1]; simp [go_sem]
 have hb2 : Below w.heap.size w w1 := (((Below.refl _ _).alloc (Nat.le_refl _) _).alloc (by simp) _).trans (hb1.mono (by simp; omega))
 simp at hz
 clear hc hf hb1
 go_wp2
 refine leaves_cons (f := 102) (args := #[.pointer (some ⟨w.heap.size, 0, none⟩), .pointer (some ⟨w.heap.size + 1, 0, none⟩)]) (by simp) (by simp [go_sem]) ?_
 refine (catchR_idle _ _ _).mono ?_
 rintro e u' w'' ⟨rfl, rfl, rfl⟩
 simp [Leaves, settle, results, Tryz.results60, go_sem, c1, c11, c2]
 exact ((hb2.setCell (by simp) _).setCell (by simp) _).setCell (by simp) _
theorem fitsR_no (g : Nat) (first : Array Value) (w : World) (hcf : ∀ W, (callFunc g first).run Tryz.prog W = .ok (.enter g first) W) (h : ∀ W, Below w.heap.size w W → Calls Tryz.prog g first W fun e W' => e = .panicked LargeP ∧ Below W.heap.size W W') :
  Calls Tryz.prog 60 #[.func (.func g) #[] first] w fun e w' => e = .returned (.tuple #[.agg #[.int .i64 0, .int .i64 0], .bool false]) ∧ Below w.heap.size w w' := by
 have hmf := run_makeFunc
 have H := Lib.hid h
 clear h
 go_enter_defers Tryz.func60, Tryz.ntmps60
 go_wp2_with fail
 refine (H.out _ Z2e0).mono ?_
 rintro e w1 ⟨rfl, hb1⟩
 obtain ⟨hc, hf⟩ := bcell hb1
 have hz := hb1.size
 have c1 : w1.cell? ⟨w.heap.size, 0, none⟩ = some (.int .i64 0) := by rw [hc _ _ Z2e1]; simp [go_sem]
 have c11 : w1.cell? ⟨w.heap.size, 1, none⟩ = some (.int .i64 0) := by rw [hc _ _ Z2e1]; simp [go_sem]
 have f11 : w1.frozen? ⟨w.heap.size, 1, none⟩ = false := by rw [hf _ _ Z2e1]; simp [go_sem]
 have c2 : w1.cell? ⟨w.heap.size + 1, 0, none⟩ = some (.bool false) := by rw [hc _ _ Z2e1]; simp [go_sem]
 have f1 : w1.frozen? ⟨w.heap.size, 0, none⟩ = false := by rw [hf _ _ Z2e1]; simp [go_sem]
 have f2 : w1.frozen? ⟨w.heap.size + 1, 0, none⟩ = false := by rw [hf _ _ Z2e1]; simp [go_sem]
 have hb2 : Below w.heap.size w w1 := (((Below.refl _ _).alloc (Nat.le_refl _) _).alloc (by simp) _).trans (hb1.mono (by simp; omega))
 simp at hz
 clear hc hf hb1
 go_wp2
 refine leaves_cons (f := 102) (args := #[.pointer (some ⟨w.heap.size, 0, none⟩), .pointer (some ⟨w.heap.size + 1, 0, none⟩)]) (by simp) (by simp [go_sem]) ?_
 refine (catchR_panicking _ _ 0 0 false _ c1 c11 f11 f1 c2 f2 (by omega) (by omega) (by omega)).mono ?_
 rintro e u' w'' ⟨rfl, rfl, rfl⟩
 have k1 : w.heap.size < w1.heap.size := by omega
 have k2 : w.heap.size + 1 < w1.heap.size := by omega
 simp [Leaves, settle, results, Tryz.results60, go_sem, c1, c11, c2, k1, k2]
 exact ((((hb2.setCell (by simp) _).setCell (by simp) _).setCell (by simp) _).alloc (by simp; omega) _).alloc (by simp; omega) _
end Go.Proofs.YtbpjnkeilhfajaaGreat.Num
end
