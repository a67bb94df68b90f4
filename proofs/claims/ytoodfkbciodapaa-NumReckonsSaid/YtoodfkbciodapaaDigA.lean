/- Plain law: rows of decimal digits, the lowest first, and the numbers that they are. -/
import Derived.Test.YtoodfkbciodapaaRefC
import Derived.Test.YtoodfkbciodapaaWWords
namespace Go.Proofs.Ytoodfkbciodapaa.Dig
set_option linter.unusedVariables false
set_option linter.unusedSimpArgs false
open Go.RowKit Go.Proofs.YtoodfkbciodapaaW.PrintWords Go.Proofs.Ytoodfkbciodapaa.Ref

/-- The number of a row. -/
def val : List Int → Int
  | [] => 0
  | d :: t => d + 10 * val t

/-- All are digits. -/
def Dig (l : List Int) : Prop := ∀ d ∈ l, 0 ≤ d ∧ d ≤ 9

theorem dig_nil : Dig [] := fun d h => by cases h
theorem dig_cons {d : Int} {t : List Int} : Dig (d :: t) ↔ (0 ≤ d ∧ d ≤ 9) ∧ Dig t := by
  unfold Dig; simp
theorem dig_append {a b : List Int} : Dig (a ++ b) ↔ Dig a ∧ Dig b := by
  unfold Dig; simp only [List.mem_append]
  constructor
  · intro h; exact ⟨fun d k => h d (.inl k), fun d k => h d (.inr k)⟩
  · rintro ⟨h, k⟩ d (m | m)
    · exact h d m
    · exact k d m
theorem dig_drop {a : List Int} (h : Dig a) (n : Nat) : Dig (a.drop n) := fun d k => h d (List.mem_of_mem_drop k)
theorem dig_take {a : List Int} (h : Dig a) (n : Nat) : Dig (a.take n) := fun d k => h d (List.mem_of_mem_take k)

theorem val_nonneg : ∀ {l : List Int}, Dig l → 0 ≤ val l
  | [], _ => Int.le_refl _
  | d :: t, h => by
    have h1 := (dig_cons.1 h).1
    have h2 := val_nonneg (dig_cons.1 h).2
    unfold val; omega

theorem val_append : ∀ (a b : List Int), val (a ++ b) = val a + 10 ^ a.length * val b
  | [], b => by simp [val]
  | d :: t, b => by
    have := val_append t b
    simp only [List.cons_append, val, List.length_cons, this, Int.pow_succ]
    grind

theorem val_lt : ∀ {l : List Int}, Dig l → val l < 10 ^ l.length
  | [], _ => by simp [val]
  | d :: t, h => by
    have h1 := (dig_cons.1 h).1
    have h2 := val_lt (dig_cons.1 h).2
    simp only [val, List.length_cons, Int.pow_succ]; omega

/-- The row of a number. -/
def dg (n : Nat) : List Int := if h : n = 0 then [] else ((n % 10 : Nat) : Int) :: dg (n / 10)
termination_by n
decreasing_by omega

theorem dg_zero : dg 0 = [] := by unfold dg; simp
theorem dg_pos {n : Nat} (h : n ≠ 0) : dg n = ((n % 10 : Nat) : Int) :: dg (n / 10) := by rw [dg]; simp [h]
theorem dg_nil {n : Nat} : dg n = [] ↔ n = 0 := by
  constructor
  · intro h; by_cases k : n = 0
    · exact k
    · rw [dg_pos k] at h; cases h
  · rintro rfl; exact dg_zero
theorem dg_len0 {n : Nat} : ((dg n).length : Int) = 0 ↔ n = 0 := by
  rw [← dg_nil (n := n)]
  constructor
  · intro h; exact List.length_eq_zero_iff.1 (by omega)
  · intro h; rw [h]; rfl

theorem dg_val (n : Nat) : val (dg n) = n := by
  induction n using Nat.strongRecOn with
  | _ n ih =>
    by_cases h : n = 0
    · subst h; rw [dg_zero]; rfl
    · rw [dg_pos h]; have := ih (n / 10) (by omega); simp only [val, this]; omega
theorem dg_dig (n : Nat) : Dig (dg n) := by
  induction n using Nat.strongRecOn with
  | _ n ih =>
    by_cases h : n = 0
    · subst h; rw [dg_zero]; exact dig_nil
    · rw [dg_pos h]; exact dig_cons.2 ⟨by omega, ih (n / 10) (by omega)⟩
theorem dg_len {n k : Nat} (h : n < 10 ^ k) : (dg n).length ≤ k := by
  induction k generalizing n with
  | zero => have : n = 0 := by simpa using h
            subst this; rw [dg_zero]; simp
  | succ k ih =>
    by_cases h0 : n = 0
    · subst h0; rw [dg_zero]; simp
    · rw [dg_pos h0]
      have := ih (n := n / 10) (by rw [Nat.pow_succ] at h; omega)
      simp only [List.length_cons]; omega

/-- Without noughts at the end. -/
def trim : List Int → List Int
  | [] => []
  | d :: t => if d = 0 ∧ trim t = [] then [] else d :: trim t

theorem trim_snoc (d : Int) : ∀ x : List Int, trim (x ++ [d]) = if d = 0 then trim x else x ++ [d]
  | [] => by by_cases h : d = 0 <;> simp [trim, h]
  | e :: t => by
    have ih := trim_snoc d t
    by_cases h : d = 0
    · rw [if_pos h] at ih ⊢
      simp only [List.cons_append, trim, ih]
    · rw [if_neg h] at ih ⊢
      simp only [List.cons_append, trim, ih]
      simp

theorem take_cut : ∀ (l : List Int) (n : Nat), n ≤ l.length → l.take (cutN l n) = trim (l.take n)
  | l, 0, _ => by simp [cutN, trim]
  | l, n + 1, h => by
    have ih := take_cut l n (by omega)
    have e : l.take (n + 1) = l.take n ++ [l.getD n 0] := by
      rw [List.take_add_one]; congr 1
      simp [List.getElem?_eq_getElem (show n < l.length by omega)]
    rw [e, trim_snoc]
    unfold cutN
    by_cases hd : l.getD n 0 = 0
    · rw [if_pos hd, if_pos hd, ih]
    · rw [if_neg hd, if_neg hd, ← e]

theorem cutL_trim (l : List Int) : cutL l = trim l := by
  unfold cutL; rw [take_cut l _ (Nat.le_refl _), List.take_length]

theorem trim_dg : ∀ {l : List Int}, Dig l → trim l = dg (val l).toNat
  | [], _ => by simp [trim, val, dg_zero]
  | d :: t, h => by
    have h1 := (dig_cons.1 h).1
    have h2 := val_nonneg (dig_cons.1 h).2
    have ih := trim_dg (dig_cons.1 h).2
    simp only [trim, ih, val]
    by_cases hz : d + 10 * val t = 0
    · rw [hz]
      have a : d = 0 := by omega
      have b : val t = 0 := by omega
      rw [if_pos ⟨a, by rw [b]; exact dg_zero⟩]; exact dg_zero.symm
    · have hn : (d + 10 * val t).toNat ≠ 0 := by omega
      rw [dg_pos hn]
      have e1 : (((d + 10 * val t).toNat % 10 : Nat) : Int) = d := by omega
      have e2 : (d + 10 * val t).toNat / 10 = (val t).toNat := by omega
      rw [e1, e2, if_neg]
      rintro ⟨a, b⟩
      rw [dg_nil] at b
      omega

/-- What stays of digits is the number's row. -/
theorem cut_dg {l : List Int} (h : Dig l) : cutL l = dg (val l).toNat := by rw [cutL_trim, trim_dg h]
theorem cut_dg' {l : List Int} (h : Dig l) {n : Nat} (hv : val l = n) : cutL l = dg n := by rw [cut_dg h, hv, Int.toNat_natCast]

/-- A digit, and what lies above. -/
theorem val_drop (l : List Int) (i : Nat) : val (l.drop i) = l.getD i 0 + 10 * val (l.drop (i + 1)) := by
  by_cases h : i < l.length
  · rw [List.drop_eq_getElem_cons h]
    simp [val, List.getElem?_eq_getElem h]
  · rw [List.drop_eq_nil_of_le (by omega), List.drop_eq_nil_of_le (by omega)]
    simp [val, List.getElem?_eq_none (show l.length ≤ i by omega)]
theorem getD_dig {l : List Int} (h : Dig l) (i : Nat) : 0 ≤ l.getD i 0 ∧ l.getD i 0 ≤ 9 := by
  by_cases hi : i < l.length
  · have : l.getD i 0 = l[i] := by simp [List.getElem?_eq_getElem hi]
    rw [this]; exact h _ (List.getElem_mem hi)
  · have : l.getD i 0 = 0 := by simp [List.getElem?_eq_none (show l.length ≤ i by omega)]
    omega

theorem lt_of_drop {a b : List Int} (ha : Dig a) (hb : Dig b) : ∀ i : Nat, val (a.drop i) < val (b.drop i) → val a < val b
  | 0, h => by simpa using h
  | i + 1, h => by
    have := getD_dig ha i
    have := getD_dig hb i
    refine lt_of_drop ha hb i ?_
    rw [val_drop a i, val_drop b i]; omega

theorem val_beyond {l : List Int} {i : Nat} (h : l.length ≤ i) : val (l.drop i) = 0 := by
  rw [List.drop_eq_nil_of_le h]; rfl

theorem wrap64_in {x : Int} (h : -9223372036854775808 ≤ x) (h2 : x < 9223372036854775808) : wrap64 x = x := by
  unfold wrap64; omega

/-- From some fuel on. -/
def Frm {α : Type} (g : Nat → Option α) (r : α) : Prop := ∃ k0, ∀ k, k0 ≤ k → g k = some r
theorem Frm.succ {α : Type} {g : Nat → Option α} {r : α} (h : Frm (fun k => g (k + 1)) r) : Frm g r := by
  obtain ⟨k0, h⟩ := h
  refine ⟨k0 + 1, fun k hk => ?_⟩
  obtain ⟨j, rfl⟩ : ∃ j, k = j + 1 := ⟨k - 1, by omega⟩
  exact h j (by omega)
theorem Frm.const {α : Type} {g : Nat → Option α} {r : α} (h : ∀ k, g k = some r) : Frm g r := ⟨0, fun k _ => h k⟩
theorem Frm.congr {α : Type} {g g' : Nat → Option α} {r : α} (h : Frm g r) (e : ∀ k, g' k = g k) : Frm g' r := by
  obtain ⟨k0, h⟩ := h; exact ⟨k0, fun k hk => by rw [e, h k hk]⟩
theorem Frm.bind {α β : Type} {g : Nat → Option α} {x : α} {f : Nat → α → Option β} {r : β} (h : Frm g x) (h2 : Frm (fun k => f k x) r) : Frm (fun k => (g k).bind (f k)) r := by
  obtain ⟨k0, h⟩ := h; obtain ⟨k1, h2⟩ := h2
  refine ⟨max k0 k1, fun k hk => ?_⟩
  have := h k (by omega)
  show (g k).bind (f k) = some r
  rw [this]; exact h2 k (by omega)
end Go.Proofs.Ytoodfkbciodapaa.Dig
