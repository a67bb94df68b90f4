/- Plain: which texts are numbers' in the one way. -/
import Derived.Test.YtnegkabafigfnaaDoorLexM
namespace Go.Proofs.YtnegkabafigfnaaDoor.Lex
open Lib (itoa decDigits)

theorem numOK_range (t : List UInt8) (h : numOK t = true) : ∃ n : Int, -9223372036854775808 ≤ n ∧ n ≤ 9223372036854775807 ∧ t = itoa n := by
  unfold numOK at h
  split at h
  · rename_i n hp
    have e63 : (2 : Nat) ^ (64 - 1) = 9223372036854775808 := by decide
    have hr : -9223372036854775808 ≤ n ∧ n ≤ 9223372036854775807 := by
      unfold Lib.parseIntB at hp
      split at hp
      · cases hp
      · simp only [e63] at hp
        split at hp
        · cases hp
        · cases hp
        · split at hp
          · cases hp
          · split at hp
            · cases hp
            · injection hp with hp
              split at hp <;> omega
    exact ⟨n, hr.1, hr.2, (by simpa using h : itoa n = t).symm⟩
  · cases h

theorem dec_lead (u : Nat) : 0 < u → ∀ c r, decDigits u = c :: r → c ≠ 48 := by
  induction u using Nat.strongRecOn with
  | ind u ih =>
    intro hu c r h
    rw [decDigits] at h
    split at h
    · rename_i hlt
      injection h with h1 h2
      rintro rfl
      have := (isD_of hlt).2
      rw [h1] at this
      have e : (48 : UInt8).toNat = 48 := rfl
      omega
    · rename_i hlt
      obtain ⟨c', r', hd, -⟩ := dec_head (u / 10)
      rw [hd, List.cons_append] at h
      injection h with h1 h2
      subst h1
      exact ih (u / 10) (by omega) (by omega) c' r' hd

theorem valD_pow : ∀ (l : List UInt8) (a : Nat), (∀ c ∈ l, isD c) → a * 10 ^ l.length ≤ valD a l ∧ valD a l < (a + 1) * 10 ^ l.length
  | [], a, _ => by unfold valD; simp
  | c :: r, a, hd => by
    have hc : 48 ≤ c.toNat ∧ c.toNat ≤ 57 := hd c (List.mem_cons_self ..)
    obtain ⟨h1, h2⟩ := valD_pow r (a * 10 + (c.toNat - 48)) (fun x hx => hd x (List.mem_cons_of_mem _ hx))
    unfold valD
    rw [List.length_cons, Nat.pow_succ, Nat.mul_comm (10 ^ r.length) 10, ← Nat.mul_assoc, ← Nat.mul_assoc]
    have h3 : a * 10 * 10 ^ r.length ≤ (a * 10 + (c.toNat - 48)) * 10 ^ r.length := Nat.mul_le_mul_right _ (by omega)
    have h4 : (a * 10 + (c.toNat - 48) + 1) * 10 ^ r.length ≤ (a + 1) * 10 * 10 ^ r.length := Nat.mul_le_mul_right _ (by omega)
    exact ⟨Nat.le_trans h3 h1, Nat.lt_of_lt_of_le h2 h4⟩

theorem dec_canon : ∀ (n : Nat) (l : List UInt8), l.length = n → l ≠ [] → (∀ c ∈ l, isD c) → (∀ c r, l = c :: r → c ≠ 48 ∨ r = []) → decDigits (valD 0 l) = l := by
  intro n
  induction n with
  | zero => intro l h1 h2; cases l with
    | nil => exact absurd rfl h2
    | cons => cases h1
  | succ n ih =>
    intro l h1 h2 hd hh
    obtain ⟨m, x, rfl⟩ : ∃ m x, l = m ++ [x] := ⟨l.dropLast, l.getLast h2, (List.dropLast_concat_getLast h2).symm⟩
    have hx : 48 ≤ x.toNat ∧ x.toNat ≤ 57 := hd x (by simp)
    have ex : UInt8.ofNat (48 + (x.toNat - 48)) = x := by
      rw [show 48 + (x.toNat - 48) = x.toNat by omega]; simp
    cases m with
    | nil =>
      show decDigits (valD (0 * 10 + (x.toNat - 48)) []) = [x]
      unfold valD
      rw [Lib.decDigits_one (by omega), show 48 + (0 * 10 + (x.toNat - 48)) = 48 + (x.toNat - 48) by omega, ex]
    | cons c r =>
      have hc : 48 ≤ c.toNat ∧ c.toNat ≤ 57 := hd c (by simp)
      have hc0 : c ≠ 48 := by
        rcases hh c (r ++ [x]) rfl with h | h
        · exact h
        · simp at h
      have hc1 : c.toNat ≠ 48 := fun h => hc0 (UInt8.toNat_inj.1 h)
      have h3 := ih (c :: r) (by simpa using h1) (by simp) (fun y hy => hd y (List.mem_append_left _ hy)) (fun c' r' h => by
        injection h with h _; subst h; exact .inl hc0)
      have hpos : 0 < valD 0 (c :: r) := by
        unfold valD
        have := valD_ge r (0 * 10 + (c.toNat - 48)); omega
      rw [valD_snoc]
      generalize valD 0 (c :: r) = V at *
      rw [decDigits, dif_neg (by omega)]
      rw [show (V * 10 + (x.toNat - 48)) / 10 = V by omega, show (V * 10 + (x.toNat - 48)) % 10 = x.toNat - 48 by omega, h3, ex]

theorem less_val : ∀ (a b : List UInt8) (q : Nat), a.length = b.length → (∀ c ∈ a, isD c) → (∀ c ∈ b, isD c) → (Op.bytesLess a b = true ↔ valD q a < valD q b)
  | [], [], q, _, _, _ => by unfold valD Op.bytesLess; simp
  | [], _ :: _, _, h, _, _ => by cases h
  | _ :: _, [], _, h, _, _ => by cases h
  | x :: a, y :: b, q, h, ha, hb => by
    have hx : 48 ≤ x.toNat ∧ x.toNat ≤ 57 := ha x (List.mem_cons_self ..)
    have hy : 48 ≤ y.toNat ∧ y.toNat ≤ 57 := hb y (List.mem_cons_self ..)
    have ha' : ∀ c ∈ a, isD c := fun c hc => ha c (List.mem_cons_of_mem _ hc)
    have hb' : ∀ c ∈ b, isD c := fun c hc => hb c (List.mem_cons_of_mem _ hc)
    have hl : a.length = b.length := by simpa using h
    obtain ⟨p1, p2⟩ := valD_pow a (q * 10 + (x.toNat - 48)) ha'
    obtain ⟨p3, p4⟩ := valD_pow b (q * 10 + (y.toNat - 48)) hb'
    unfold valD Op.bytesLess
    by_cases he : x = y
    · subst he
      have := less_val a b (q * 10 + (x.toNat - 48)) hl ha' hb'
      rw [← this]
      have hn : ¬ x < x := by rw [UInt8.lt_iff_toNat_lt]; omega
      simp [hn]
    · have hne : x.toNat ≠ y.toNat := fun h => he (UInt8.toNat_inj.1 h)
      by_cases hlt : x.toNat < y.toNat
      · have h1 : x < y := by rw [UInt8.lt_iff_toNat_lt]; exact hlt
        have h2 : valD (q * 10 + (x.toNat - 48)) a < valD (q * 10 + (y.toNat - 48)) b := by
          have : (q * 10 + (x.toNat - 48) + 1) * 10 ^ a.length ≤ (q * 10 + (y.toNat - 48)) * 10 ^ b.length := by
            rw [hl]; exact Nat.mul_le_mul_right _ (by omega)
          omega
        simp [h1, h2]
      · have h1 : ¬ x < y := by rw [UInt8.lt_iff_toNat_lt]; exact hlt
        have h2 : ¬ valD (q * 10 + (x.toNat - 48)) a < valD (q * 10 + (y.toNat - 48)) b := by
          have : (q * 10 + (y.toNat - 48) + 1) * 10 ^ b.length ≤ (q * 10 + (x.toNat - 48)) * 10 ^ a.length := by
            rw [hl]; exact Nat.mul_le_mul_right _ (by omega)
          omega
        simp [h1, h2, he]

def limL (sign : Bool) : List UInt8 := if sign then [57, 50, 50, 51, 51, 55, 50, 48, 51, 54, 56, 53, 52, 55, 55, 53, 56, 48, 56] else [57, 50, 50, 51, 51, 55, 50, 48, 51, 54, 56, 53, 52, 55, 55, 53, 56, 48, 55]
theorem limL_len (s : Bool) : (limL s).length = 19 := by cases s <;> rfl
theorem limL_dig (s : Bool) : ∀ c ∈ limL s, isD c := by
  cases s <;> (intro c hc; unfold isD; revert c; unfold limL; decide)
theorem limL_val (s : Bool) : valD 0 (limL s) = if s then 9223372036854775808 else 9223372036854775807 := by cases s <;> decide

/-- The document's conditions on the digits of a number, with a sign ahead or without. -/
def numC (sign : Bool) (ds : List UInt8) : Prop := ds ≠ [] ∧ ds.length ≤ 19 ∧ (∀ r, ds = 48 :: r → r = [] ∧ sign = false) ∧ (ds.length = 19 → ¬ Op.bytesLess (limL sign) ds = true)

theorem len_le (ds : List UInt8) (hd : ∀ c ∈ ds, isD c) (hh : ∀ c r, ds = c :: r → c ≠ 48) (hv : valD 0 ds ≤ 9223372036854775808) : ds.length ≤ 19 := by
  cases ds with
  | nil => simp
  | cons c r =>
    have hc : 48 ≤ c.toNat ∧ c.toNat ≤ 57 := hd c (List.mem_cons_self ..)
    have hc1 : c.toNat ≠ 48 := fun h => hh c r rfl (UInt8.toNat_inj.1 h)
    unfold valD at hv
    have hp := (valD_pow r (0 * 10 + (c.toNat - 48)) (fun x hx => hd x (List.mem_cons_of_mem _ hx))).1
    rw [List.length_cons]
    by_cases hq : r.length ≤ 18
    · omega
    · have h1 : 10 ^ 19 ≤ 10 ^ r.length := Nat.pow_le_pow_right (by decide) (by omega)
      have h2 : 1 * 10 ^ r.length ≤ (0 * 10 + (c.toNat - 48)) * 10 ^ r.length := Nat.mul_le_mul_right _ (by omega)
      have h3 : (10 : Nat) ^ 19 = 10000000000000000000 := by decide
      omega

theorem numC_fwd (s : Bool) (u : Nat) (hu : u ≤ (if s then 9223372036854775808 else 9223372036854775807)) (h0 : s = true → 0 < u) : numC s (decDigits u) := by
  have hd := dec_digits u
  have hv := dec_val u
  refine ⟨dec_ne u, ?_, ?_, ?_⟩
  · by_cases hz : 0 < u
    · exact len_le _ hd (dec_lead u hz) (by rw [hv]; revert hu; split <;> omega)
    · have : u = 0 := by omega
      subst this; rw [Lib.decDigits_one (by decide)]; decide
  · intro r hr
    by_cases hz : 0 < u
    · exact absurd rfl (dec_lead u hz _ _ hr)
    · have : u = 0 := by omega
      subst this
      rw [Lib.decDigits_one (by decide)] at hr
      injection hr with _ hr
      refine ⟨hr.symm, ?_⟩
      cases s with
      | false => rfl
      | true => exact absurd (h0 rfl) (by omega)
  · intro hl hb
    rw [less_val _ _ 0 (by rw [limL_len, hl]) (limL_dig s) hd, limL_val, hv] at hb
    omega

theorem numC_iff (s : Bool) (ds : List UInt8) (hd : ∀ c ∈ ds, isD c) : numOK ((if s then [45] else []) ++ ds) = true ↔ numC s ds := by
  constructor
  · intro h
    obtain ⟨n, h0, h1, ht⟩ := numOK_range _ h
    unfold Lib.itoa at ht
    cases s with
    | false =>
      have ht : ds = if n < 0 then 45 :: decDigits n.natAbs else decDigits n.toNat := ht
      by_cases hn : n < 0
      · rw [if_pos hn] at ht
        have := hd 45 (by rw [ht]; exact List.mem_cons_self ..)
        exact absurd (show 48 ≤ (45 : UInt8).toNat from this.1) (by decide)
      · rw [if_neg hn] at ht
        rw [ht]
        exact numC_fwd false n.toNat (by show n.toNat ≤ 9223372036854775807; omega) (fun h => by cases h)
    | true =>
      have ht : 45 :: ds = if n < 0 then 45 :: decDigits n.natAbs else decDigits n.toNat := ht
      by_cases hn : n < 0
      · rw [if_pos hn] at ht
        injection ht with _ ht
        rw [ht]
        exact numC_fwd true n.natAbs (by show n.natAbs ≤ 9223372036854775808; omega) (fun _ => by omega)
      · rw [if_neg hn] at ht
        have := dec_digits n.toNat 45 (by rw [← ht]; exact List.mem_cons_self ..)
        exact absurd (show 48 ≤ (45 : UInt8).toNat from this.1) (by decide)
  · rintro ⟨c1, c2, c3, c4⟩
    have hcan := dec_canon _ ds rfl c1 hd (fun c r h => by
      by_cases hc : c = 48
      · subst hc; exact .inr (c3 r h).1
      · exact .inl hc)
    have hb : valD 0 ds ≤ if s then 9223372036854775808 else 9223372036854775807 := by
      by_cases hl : ds.length = 19
      · have := c4 hl
        rw [less_val _ _ 0 (by rw [limL_len, hl]) (limL_dig s) hd, limL_val] at this
        omega
      · have h1 := (valD_pow ds 0 hd).2
        have h2 : 10 ^ ds.length ≤ 10 ^ 18 := Nat.pow_le_pow_right (by decide) (by omega)
        have h3 : (10 : Nat) ^ 18 = 1000000000000000000 := by decide
        have h4 : (0 + 1) * 10 ^ ds.length = 10 ^ ds.length := by rw [Nat.zero_add, Nat.one_mul]
        split <;> omega
    cases s with
    | false =>
      have hb : valD 0 ds ≤ 9223372036854775807 := hb
      have := numOK_itoa (valD 0 ds : Int) (by omega) (by omega)
      unfold Lib.itoa at this
      rw [if_neg (by omega), Int.toNat_natCast, hcan] at this
      exact this
    | true =>
      have hb : valD 0 ds ≤ 9223372036854775808 := hb
      have hpos : 0 < valD 0 ds := by
        cases ds with
        | nil => exact absurd rfl c1
        | cons c r =>
          have hc : 48 ≤ c.toNat ∧ c.toNat ≤ 57 := hd c (List.mem_cons_self ..)
          have hc1 : c.toNat ≠ 48 := by
            intro h
            have : c = 48 := UInt8.toNat_inj.1 h
            subst this
            have := (c3 r rfl).2
            cases this
          unfold valD
          have := valD_ge r (0 * 10 + (c.toNat - 48)); omega
      have := numOK_itoa (-(valD 0 ds : Int)) (by omega) (by omega)
      unfold Lib.itoa at this
      rw [if_pos (by omega), Int.natAbs_neg, Int.natAbs_natCast, hcan] at this
      exact this
end Go.Proofs.YtnegkabafigfnaaDoor.Lex
