/- Plain: what lex.Lex answers. -/
import Derived.Test.YtnegkabafigfnaaDoorLexP
import Derived.Lib.SlTrimSet
import Derived.Lib.IndexMore
import Derived.Lib.IndexBytes
namespace Go.Proofs.YtnegkabafigfnaaDoor.Lex

/-- What is left of a text behind spaces and remarks; true: inside of a remark. -/
def skipS : Bool → List UInt8 → List UInt8
  | _, [] => []
  | true, c :: r => if c = 10 then skipS false r else skipS true r
  | false, c :: r => if spacesL.contains c then skipS false r else if c = 59 then skipS true r else c :: r

theorem skipS_len : ∀ (l : List UInt8) (b : Bool), (skipS b l).length ≤ l.length
  | [], b => by cases b <;> exact Nat.le_refl _
  | c :: r, true => by
    have h1 := skipS_len r false
    have h2 := skipS_len r true
    unfold skipS; split <;> (rw [List.length_cons]; omega)
  | c :: r, false => by
    have h1 := skipS_len r false
    have h2 := skipS_len r true
    unfold skipS; split
    · rw [List.length_cons]; omega
    · split
      · rw [List.length_cons]; omega
      · exact Nat.le_refl _

theorem skipS_drop (l : List UInt8) : skipS false l = skipS false (l.dropWhile (spacesL.contains ·)) := by
  induction l with
  | nil => rfl
  | cons c r ih =>
    by_cases h : spacesL.contains c = true
    · rw [List.dropWhile_cons_of_pos h, ← ih]
      conv => lhs; unfold skipS
      rw [if_pos h]
    · rw [List.dropWhile_cons_of_neg h]

theorem skipS_rem (l : List UInt8) : skipS true l = skipS false ((l.dropWhile (· != 10)).drop 1) := by
  induction l with
  | nil => rfl
  | cons c r ih =>
    have e : skipS true (c :: r) = if c = 10 then skipS false r else skipS true r := rfl
    rw [e]
    by_cases h : c = 10
    · rw [if_pos h, List.dropWhile_cons_of_neg (by simp [h])]; rfl
    · rw [if_neg h, List.dropWhile_cons_of_pos (by simpa using h)]; exact ih

theorem cut_nl (l : List UInt8) (c : UInt8) : (Lib.cut l [c]).2.1 = (l.dropWhile (· != c)).drop 1 := by
  unfold Lib.cut
  rw [Lib.index_one]
  have key : (0 ≤ Lib.indexByte l c ∧ l.drop ((Lib.indexByte l c).toNat + 1) = (l.dropWhile (· != c)).drop 1) ∨ (Lib.indexByte l c = -1 ∧ (l.dropWhile (· != c)).drop 1 = []) := by
    induction l with
    | nil => right; exact ⟨rfl, rfl⟩
    | cons b l ih =>
      unfold Lib.indexByte
      by_cases hb : b = c
      · left
        subst hb
        rw [if_pos (by simp), List.dropWhile_cons_of_neg (by simp)]
        exact ⟨Int.le_refl _, rfl⟩
      · rw [if_neg (by simpa using hb), List.dropWhile_cons_of_pos (by simpa using hb)]
        rcases ih with ⟨h1, h2⟩ | ⟨h1, h2⟩
        · left
          rw [if_neg (by simp; omega)]
          refine ⟨by omega, ?_⟩
          rw [show (Lib.indexByte l c + 1).toNat = (Lib.indexByte l c).toNat + 1 by omega]
          rw [List.drop_succ_cons]; exact h2
        · right
          rw [if_pos (by simp [h1])]
          exact ⟨rfl, h2⟩
  rcases key with ⟨h1, h2⟩ | ⟨h1, h2⟩
  · rw [if_pos h1]; exact h2
  · rw [if_neg (by omega), h2]

/-- The tokens of a text (their kinds, texts and places), the place of the end, or of what is wrong, and whether something is. -/
def lexL (n : Nat) : Nat → List UInt8 → List (Int × List UInt8 × Nat) × Nat × Bool
  | 0, _ => ([], 0, false)
  | k + 1, r =>
    if r = [] then ([], n, true)
    else if (pieceP r).2.2 then
      ((if (lexL n k (skipS false (r.drop (pieceP r).2.1.length))).2.2 then ((pieceP r).1, (pieceP r).2.1, n - r.length) :: (lexL n k (skipS false (r.drop (pieceP r).2.1.length))).1 else []), (lexL n k (skipS false (r.drop (pieceP r).2.1.length))).2)
    else ([], n - r.length, false)

theorem numText_le (l : List UInt8) : (numText l).length ≤ l.length := by
  unfold numText; rw [List.length_take]; omega

theorem numText_pos (l : List UInt8) (h : numOK (numText l) = true) : 0 < (numText l).length := by
  cases hn : numText l with
  | nil => rw [hn] at h; exact absurd h (by decide)
  | cons a b => simp

/-- A token that is right is of at least one byte, and lies in the text. -/
theorem piece_len (l : List UInt8) (h : (pieceP l).2.2 = true) : 0 < (pieceP l).2.1.length ∧ (pieceP l).2.1.length ≤ l.length := by
  cases l with
  | nil => exact absurd h (by decide)
  | cons c l =>
    have hl := numText_le (c :: l)
    unfold pieceP at h ⊢
    simp only at h ⊢
    split at h
    · rename_i h1; rw [if_pos h1]; simp
    · rename_i h1; rw [if_neg h1]
      split at h
      · rename_i h2; rw [if_pos h2]; simp
      · rename_i h2; rw [if_neg h2]
        split at h
        · rename_i h3; rw [if_pos h3]
          have hin : innerL.contains c = true := by
            rw [show innerL = lettersL ++ [48, 49, 50, 51, 52, 53, 54, 55, 56, 57, 95, 45] from rfl, List.contains_append, h3]; rfl
          refine ⟨?_, (List.takeWhile_sublist _).length_le⟩
          rw [List.takeWhile_cons_of_pos hin]; simp
        · rename_i h3; rw [if_neg h3]
          split at h
          · rename_i h4; rw [if_pos h4]
            exact ⟨numText_pos _ h4, hl⟩
          · cases h

/-- More fuel tells the same. -/
theorem lexL_fuel (n : Nat) : ∀ (k j : Nat) (r : List UInt8), r.length < k → r.length < j → lexL n k r = lexL n j r := by
  intro k
  induction k with
  | zero => intro j r h; omega
  | succ k ih =>
    intro j r h1 h2
    obtain ⟨j, rfl⟩ : ∃ m, j = m + 1 := ⟨j - 1, by omega⟩
    unfold lexL
    by_cases hr : r = []
    · rw [if_pos hr, if_pos hr]
    · rw [if_neg hr, if_neg hr]
      by_cases hp : (pieceP r).2.2 = true
      · have hq := piece_len r hp
        have hs := skipS_len (r.drop (pieceP r).2.1.length) false
        rw [List.length_drop] at hs
        rw [if_pos hp, if_pos hp, ih j _ (by omega) (by omega)]
      · rw [if_neg hp, if_neg hp]

def lexA (l : List UInt8) : List (Int × List UInt8 × Nat) × Nat × Bool := lexL l.length (l.length + 1) (skipS false l)

theorem shownA : lexA [40, 97, 32, 45, 49, 41, 32, 59, 32, 98] = ([(1, [40], 0), (3, [97], 1), (4, [45, 49], 3), (2, [41], 5)], 10, true) := by decide +kernel
theorem shownB : lexA [97, 32, 48, 49] = ([], 2, false) := by decide +kernel
end Go.Proofs.YtnegkabafigfnaaDoor.Lex
