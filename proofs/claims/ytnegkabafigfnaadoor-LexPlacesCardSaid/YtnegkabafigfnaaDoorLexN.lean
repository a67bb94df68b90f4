/- Plain: decimal digits, read and written. -/
import Derived.Test.YtnegkabafigfnaaDoorLexS
import Derived.Lib.ItoaMem
import Derived.Lib.ItoaLen
namespace Go.Proofs.YtnegkabafigfnaaDoor.Lex
open Go.Lib (decDigits itoa parseUintM parseUintB parseIntB)

def isD (c : UInt8) : Prop := 48 ≤ c.toNat ∧ c.toNat ≤ 57
theorem isD_of {d : Nat} (h : d < 10) : isD (UInt8.ofNat (48 + d)) ∧ (UInt8.ofNat (48 + d)).toNat = 48 + d := by
  have : (UInt8.ofNat (48 + d)).toNat = 48 + d := by simp; omega
  refine ⟨⟨?_, ?_⟩, this⟩ <;> omega
theorem digits_iff (c : UInt8) : digitsL.contains c = true ↔ isD c := by
  unfold isD digitsL
  constructor
  · intro h
    simp only [List.contains_cons, List.contains_nil, Bool.or_false, Bool.or_eq_true, beq_iff_eq] at h
    rcases h with rfl | rfl | rfl | rfl | rfl | rfl | rfl | rfl | rfl | rfl <;> decide
  · intro ⟨h1, h2⟩
    have : c.toNat = 48 ∨ c.toNat = 49 ∨ c.toNat = 50 ∨ c.toNat = 51 ∨ c.toNat = 52 ∨ c.toNat = 53 ∨ c.toNat = 54 ∨ c.toNat = 55 ∨ c.toNat = 56 ∨ c.toNat = 57 := by omega
    simp only [List.contains_cons, List.contains_nil, Bool.or_false, Bool.or_eq_true, beq_iff_eq]
    rcases this with h | h | h | h | h | h | h | h | h | h <;> simp [← UInt8.toNat_inj, h]

/-- What digits spell, behind a number. -/
def valD : Nat → List UInt8 → Nat
  | a, [] => a
  | a, c :: r => valD (a * 10 + (c.toNat - 48)) r
theorem valD_ge : ∀ (l : List UInt8) (a : Nat), a ≤ valD a l
  | [], a => Nat.le_refl _
  | c :: r, a => by have := valD_ge r (a * 10 + (c.toNat - 48)); unfold valD; omega
theorem valD_snoc (c : UInt8) : ∀ (l : List UInt8) (a : Nat), valD a (l ++ [c]) = valD a l * 10 + (c.toNat - 48)
  | [], a => rfl
  | b :: r, a => by rw [List.cons_append]; unfold valD; exact valD_snoc c r _

theorem parseU_ok : ∀ (l : List UInt8) (a : Nat), (∀ c ∈ l, isD c) → valD a l ≤ 18446744073709551615 → parseUintM 18446744073709551615 a l = .ok (valD a l)
  | [], a, _, _ => rfl
  | c :: r, a, hd, hv => by
    have hc : 48 ≤ c.toNat ∧ c.toNat ≤ 57 := hd c (List.mem_cons_self ..)
    have hge := valD_ge r (a * 10 + (c.toNat - 48))
    unfold valD at hv ⊢
    unfold parseUintM
    rw [if_pos hc, if_neg (by omega), if_neg (by omega)]
    exact parseU_ok r _ (fun x hx => hd x (List.mem_cons_of_mem _ hx)) hv

theorem dec_digits (u : Nat) : ∀ c ∈ decDigits u, isD c := by
  induction u using Nat.strongRecOn with
  | ind u ih =>
    intro c hc
    rw [decDigits] at hc
    split at hc
    · rename_i h
      rw [List.mem_singleton] at hc
      subst hc; exact (isD_of h).1
    · rename_i h
      rcases List.mem_append.1 hc with hc | hc
      · exact ih (u / 10) (by omega) c hc
      · rw [List.mem_singleton] at hc
        subst hc; exact (isD_of (Nat.mod_lt _ (by decide))).1
theorem dec_val (u : Nat) : valD 0 (decDigits u) = u := by
  induction u using Nat.strongRecOn with
  | ind u ih =>
    rw [decDigits]
    split
    · rename_i h
      show 0 * 10 + ((UInt8.ofNat (48 + u)).toNat - 48) = u
      rw [(isD_of h).2]; omega
    · rename_i h
      rw [valD_snoc, ih (u / 10) (by omega), (isD_of (Nat.mod_lt _ (by decide))).2]
      omega
theorem dec_ne (u : Nat) : decDigits u ≠ [] := by
  rw [decDigits]; split
  · simp
  · simp

theorem parseB_dec (u : Nat) (h : u ≤ 18446744073709551615) : parseUintB 64 (decDigits u) = .ok u := by
  unfold parseUintB
  rw [if_neg (dec_ne u)]
  have e : (2 : Nat) ^ 64 - 1 = 18446744073709551615 := by decide
  rw [e, parseU_ok _ 0 (dec_digits u) (by rw [dec_val]; exact h), dec_val]

theorem dec_head (u : Nat) : ∃ c r, decDigits u = c :: r ∧ isD c := by
  cases h : decDigits u with
  | nil => exact absurd h (dec_ne u)
  | cons c r => exact ⟨c, r, rfl, dec_digits u c (by rw [h]; exact List.mem_cons_self ..)⟩

theorem parse_itoa (n : Int) (h0 : -9223372036854775808 ≤ n) (h1 : n ≤ 9223372036854775807) : parseIntB 64 (itoa n) = .ok n := by
  unfold itoa
  have e : (2 : Nat) ^ (64 - 1) = 9223372036854775808 := by decide
  split
  · rename_i hn
    unfold parseIntB
    simp only [show (45 : UInt8).toNat = 45 from rfl]
    rw [if_pos (.inr trivial), parseB_dec _ (by omega)]
    simp only [e]
    rw [if_neg (by simp), if_neg (by omega), if_pos trivial]
    congr 1; omega
  · rename_i hn
    obtain ⟨c, r, hd, hc⟩ := dec_head n.toNat
    have hb := parseB_dec n.toNat (by omega)
    rw [hd] at hb ⊢
    unfold parseIntB
    unfold isD at hc
    simp only
    rw [if_neg (by omega), hb]
    simp only [e]
    rw [if_neg (by omega), if_neg (by omega), if_neg (by omega)]
    congr 1; omega

theorem numOK_itoa (n : Int) (h0 : -9223372036854775808 ≤ n) (h1 : n ≤ 9223372036854775807) : numOK (itoa n) = true := by
  unfold numOK; rw [parse_itoa n h0 h1]; simp

theorem take_digits (l r : List UInt8) (hl : ∀ c ∈ l, isD c) (hr : ∀ c t, r = c :: t → ¬ isD c) : (l ++ r).takeWhile (digitsL.contains ·) = l := by
  induction l with
  | nil =>
    cases r with
    | nil => rfl
    | cons c t => rw [List.nil_append, List.takeWhile_cons_of_neg (by rw [digits_iff]; exact hr c t rfl)]
  | cons c l ih =>
    rw [List.cons_append, List.takeWhile_cons_of_pos ((digits_iff c).2 (hl c (List.mem_cons_self ..))), ih (fun x hx => hl x (List.mem_cons_of_mem _ hx))]

theorem trim_no {c : UInt8} (l : List UInt8) (h : c ≠ 45) : Lib.trimPrefix (c :: l) [45] = c :: l := by
  unfold Lib.trimPrefix Lib.hasPrefix
  rw [if_neg]
  simp [List.isPrefixOf, Ne.symm h]
theorem trim_yes (l : List UInt8) : Lib.trimPrefix (45 :: l) [45] = l := by
  unfold Lib.trimPrefix Lib.hasPrefix
  rw [if_pos (by simp [List.isPrefixOf])]; rfl
theorem isD_ne {c : UInt8} (h : isD c) {d : UInt8} (hd : d.toNat < 48 ∨ 57 < d.toNat) : c ≠ d := by
  rintro rfl; unfold isD at h; omega

/-- The text of a number, with something behind it. -/
theorem numText_itoa (n : Int) (r : List UInt8) (hr : ∀ c t, r = c :: t → ¬ isD c) : numText (itoa n ++ r) = itoa n := by
  unfold itoa
  split
  · unfold numText
    rw [List.cons_append, trim_yes, take_digits _ _ (dec_digits _) hr]
    rw [List.length_cons, show (decDigits n.natAbs ++ r).length + 1 - (decDigits n.natAbs ++ r).length = 1 by omega]
    rw [show 1 + (decDigits n.natAbs).length = (decDigits n.natAbs).length + 1 by omega, List.take_succ_cons, List.take_left]
  · obtain ⟨c, t, hd, hc⟩ := dec_head n.toNat
    have hall := dec_digits n.toNat
    rw [hd] at hall ⊢
    unfold numText
    rw [List.cons_append, trim_no _ (isD_ne hc (.inl (by decide))), ← List.cons_append, take_digits _ _ hall hr, Nat.sub_self, Nat.zero_add, List.take_left]

theorem itoa_head (n : Int) : ∃ c t, itoa n = c :: t ∧ (c = 45 ∨ isD c) := by
  unfold itoa
  split
  · exact ⟨45, _, rfl, .inl rfl⟩
  · obtain ⟨c, t, h, hc⟩ := dec_head n.toNat
    exact ⟨c, t, h, .inr hc⟩

theorem letters_no {c : UInt8} (h : c = 45 ∨ isD c) : lettersL.contains c = false ∧ c ≠ 40 ∧ c ≠ 41 ∧ spacesL.contains c = false ∧ c ≠ 59 := by
  rcases h with rfl | h
  · decide
  · have := (digits_iff c).2 h
    unfold digitsL at this
    simp only [List.contains_cons, List.contains_nil, Bool.or_false, Bool.or_eq_true, beq_iff_eq] at this
    rcases this with rfl | rfl | rfl | rfl | rfl | rfl | rfl | rfl | rfl | rfl <;> decide

theorem piece_num (c : UInt8) (t : List UInt8) (h : c = 45 ∨ isD c) : pieceP (c :: t) = if numOK (numText (c :: t)) then (4, numText (c :: t), endOK ((c :: t).drop (numText (c :: t)).length)) else (0, [], false) := by
  obtain ⟨h1, h2, h3, -, -⟩ := letters_no h
  unfold pieceP
  simp only [h1, h2, h3, if_false, Bool.false_eq_true]

theorem piece_itoa (n : Int) (h0 : -9223372036854775808 ≤ n) (h1 : n ≤ 9223372036854775807) (r : List UInt8) (hr : ∀ c t, r = c :: t → ¬ isD c) : pieceP (itoa n ++ r) = (4, itoa n, endOK r) := by
  have e := numText_itoa n r hr
  obtain ⟨c, t, hi, hc⟩ := itoa_head n
  have p := piece_num c (t ++ r) hc
  rw [← List.cons_append, ← hi, e, numOK_itoa n h0 h1, if_pos rfl, List.drop_left] at p
  exact p

theorem skip_none {c : UInt8} (t : List UInt8) (h : spacesL.contains c = false) (h2 : c ≠ 59) : skipS false (c :: t) = c :: t := by
  have e : skipS false (c :: t) = if spacesL.contains c then skipS false t else if c = 59 then skipS true t else c :: t := rfl
  rw [e, h, if_neg h2]; rfl
end Go.Proofs.YtnegkabafigfnaaDoor.Lex
