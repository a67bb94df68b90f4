/- Plain: what is joined has the same tokens. -/
import Derived.Test.YtnegkabafigfnaaDoorLexN
import Derived.Test.YtnegkabafigfnaaDoorLexF
namespace Go.Proofs.YtnegkabafigfnaaDoor.Lex
open Lib (itoa)

/-- A token's kind and text. -/
inductive GoodT : Int → List UInt8 → Prop
  | opn : GoodT 1 [40]
  | shut : GoodT 2 [41]
  | word (c : UInt8) (t : List UInt8) : lettersL.contains c = true → (∀ x ∈ t, innerL.contains x = true) → GoodT 3 (c :: t)
  | num (n : Int) : numOK (itoa n) = true → GoodT 4 (itoa n)

theorem numOK_is (t : List UInt8) (h : numOK t = true) : ∃ n, t = itoa n := by
  unfold numOK at h
  split at h
  · rename_i n _; exact ⟨n, (by simpa using h : itoa n = t).symm⟩
  · cases h

theorem inner_of {c : UInt8} (h : lettersL.contains c = true) : innerL.contains c = true := by
  rw [show innerL = lettersL ++ [48, 49, 50, 51, 52, 53, 54, 55, 56, 57, 95, 45] from rfl, List.contains_append, h]; rfl

theorem letters_ns {c : UInt8} (h : lettersL.contains c = true) : spacesL.contains c = false ∧ c ≠ 59 ∧ c ≠ 40 ∧ c ≠ 41 := by
  refine ⟨?_, ?_, ?_, ?_⟩
  · by_cases hs : spacesL.contains c = true
    · unfold spacesL at hs
      simp only [List.contains_cons, List.contains_nil, Bool.or_false, Bool.or_eq_true, beq_iff_eq] at hs
      rcases hs with rfl | rfl | rfl | rfl <;> (revert h; decide)
    · simpa using hs
  all_goals (rintro rfl; revert h; decide)

theorem behind_no {c : UInt8} (h : behindL.contains c = true) : innerL.contains c = false ∧ ¬ isD c := by
  unfold behindL at h
  simp only [List.contains_cons, List.contains_nil, Bool.or_false, Bool.or_eq_true, beq_iff_eq] at h
  rcases h with rfl | rfl | rfl | rfl | rfl | rfl | rfl <;> (unfold isD; decide)

theorem take_inner (l r : List UInt8) (hl : ∀ c ∈ l, innerL.contains c = true) (hr : ∀ c t, r = c :: t → innerL.contains c = false) : (l ++ r).takeWhile (innerL.contains ·) = l := by
  induction l with
  | nil =>
    cases r with
    | nil => rfl
    | cons c t => rw [List.nil_append, List.takeWhile_cons_of_neg (by rw [hr c t rfl]; decide)]
  | cons c l ih =>
    rw [List.cons_append, List.takeWhile_cons_of_pos (hl c (List.mem_cons_self ..)), ih (fun x hx => hl x (List.mem_cons_of_mem _ hx))]

theorem good_piece (l : List UInt8) (h : (pieceP l).2.2 = true) : GoodT (pieceP l).1 (pieceP l).2.1 ∧ l = (pieceP l).2.1 ++ l.drop (pieceP l).2.1.length := by
  cases l with
  | nil => exact absurd h (by decide)
  | cons c l =>
    unfold pieceP at h ⊢
    simp only at h ⊢
    split at h
    · rename_i h1; subst h1; exact ⟨.opn, rfl⟩
    · rename_i h1; rw [if_neg h1]
      split at h
      · rename_i h2; subst h2; exact ⟨.shut, rfl⟩
      · rename_i h2; rw [if_neg h2]
        split at h
        · rename_i h3; rw [if_pos h3]
          have hin := inner_of h3
          refine ⟨?_, ?_⟩
          · rw [List.takeWhile_cons_of_pos hin]
            refine .word c _ h3 fun x hx => ?_
            have := List.all_takeWhile (p := (innerL.contains ·)) (l := l)
            exact List.all_eq_true.1 this x hx
          · have := (List.takeWhile_append_dropWhile (p := (innerL.contains ·)) (l := c :: l))
            conv => lhs; rw [← this]
            congr 1
            have e := congrArg (List.drop (List.takeWhile (innerL.contains ·) (c :: l)).length) this
            rw [List.drop_left] at e
            exact e
        · rename_i h3; rw [if_neg h3]
          split at h
          · rename_i h4; rw [if_pos h4]
            obtain ⟨n, hn⟩ := numOK_is _ h4
            refine ⟨by rw [hn] at h4 ⊢; exact .num n h4, ?_⟩
            unfold numText
            generalize hm : List.length (c :: l) - _ + _ = m
            rw [List.length_take]
            by_cases hq : m ≤ (c :: l).length
            · rw [Nat.min_eq_left hq, List.take_append_drop]
            · rw [Nat.min_eq_right (by omega), List.drop_length, List.append_nil, List.take_of_length_le (by omega)]
          · cases h

theorem head_good {k : Int} {x : List UInt8} (h : GoodT k x) : ∃ c t, x = c :: t ∧ spacesL.contains c = false ∧ c ≠ 59 := by
  cases h with
  | opn => exact ⟨_, _, rfl, by decide, by decide⟩
  | shut => exact ⟨_, _, rfl, by decide, by decide⟩
  | word c t h1 h2 => exact ⟨_, _, rfl, (letters_ns h1).1, (letters_ns h1).2.1⟩
  | num n hn =>
    obtain ⟨c, t, hi, hc⟩ := itoa_head n
    obtain ⟨-, -, -, h1, h2⟩ := letters_no hc
    exact ⟨c, t, hi, h1, h2⟩

theorem end_heads {r : List UInt8} (h : endOK r = true) : ∀ c t, r = c :: t → innerL.contains c = false ∧ ¬ isD c := by
  rintro c t rfl
  exact behind_no h

theorem piece_good {k : Int} {x : List UInt8} (h : GoodT k x) (r : List UInt8) (hr : k = 1 ∨ k = 2 ∨ endOK r = true) : pieceP (x ++ r) = (k, x, true) := by
  cases h with
  | opn => rfl
  | shut => rfl
  | word c t h1 h2 =>
    have he : endOK r = true := by rcases hr with h | h | h; · exact absurd h (by decide)
                                   · exact absurd h (by decide)
                                   · exact h
    obtain ⟨-, -, h40, h41⟩ := letters_ns h1
    have ht := take_inner (c :: t) r (by
      intro y hy
      rcases List.mem_cons.1 hy with rfl | hy
      · exact inner_of h1
      · exact h2 y hy) (fun c t h => (end_heads he c t h).1)
    rw [List.cons_append] at ht ⊢
    unfold pieceP
    simp only
    rw [if_neg h40, if_neg h41, if_pos h1, ht, ← List.cons_append, List.drop_left, he]
  | num n hn =>
    have he : endOK r = true := by rcases hr with h | h | h; · exact absurd h (by decide)
                                   · exact absurd h (by decide)
                                   · exact h
    have e := numText_itoa n r (fun c t h => (end_heads he c t h).2)
    obtain ⟨c, t, hi, hc⟩ := itoa_head n
    have p := piece_num c (t ++ r) hc
    rw [← List.cons_append, ← hi, e, hn, if_pos rfl, List.drop_left, he] at p
    exact p

/-- What stands in a joined text. -/
def joinL : Option Int → List (Int × List UInt8 × Nat) → List UInt8
  | _, [] => []
  | p, t :: r => sepP p t.1 ++ t.2.1 ++ joinL (some t.1) r
def tkOf (x : Int × List UInt8 × Nat) : Tk := (x.1, ⟨x.2.1.toArray⟩, (x.2.2 : Int))
theorem joinFrom_tk (l : List (Int × List UInt8 × Nat)) : ∀ p, joinFrom p (l.map tkOf) = joinL p l := by
  induction l with
  | nil => intro p; rfl
  | cons t l ih =>
    intro p
    rw [List.map_cons]
    unfold joinFrom joinL
    rw [ih]
    rfl
def lenL : List (Int × List UInt8 × Nat) → Nat
  | [] => 0
  | t :: r => t.2.1.length + lenL r
theorem joinL_len (l : List (Int × List UInt8 × Nat)) : ∀ p, (joinL p l).length ≤ lenL l + l.length := by
  induction l with
  | nil => intro p; exact Nat.le_refl _
  | cons t l ih =>
    intro p
    unfold joinL lenL
    have := ih (some t.1)
    have hs : (sepP p t.1).length ≤ 1 := by
      unfold sepP; split
      · exact Nat.zero_le _
      · split
        · exact Nat.le_refl _
        · exact Nat.zero_le _
    rw [List.length_append, List.length_append, List.length_cons]; omega
def ktOf (x : Int × List UInt8 × Nat) : Int × List UInt8 := (x.1, x.2.1)
theorem joinL_kt (l m : List (Int × List UInt8 × Nat)) (h : l.map ktOf = m.map ktOf) : ∀ p, joinL p l = joinL p m := by
  induction l generalizing m with
  | nil => cases m with
    | nil => intro p; rfl
    | cons => cases h
  | cons t l ih =>
    cases m with
    | nil => cases h
    | cons u m =>
      rw [List.map_cons, List.map_cons] at h
      injection h with h1 h2
      have h5 : (t.1, t.2.1) = (u.1, u.2.1) := h1
      obtain ⟨h3, h4⟩ := Prod.mk.inj h5
      intro p
      unfold joinL
      rw [h3, h4, ih m h2]

theorem relex (n : Nat) (toks : List (Int × List UInt8 × Nat)) : (∀ t ∈ toks, GoodT t.1 t.2.1) → ∀ p k, toks.length < k → ∃ m, lexL n k (skipS false (joinL p toks)) = (m, n, true) ∧ m.map ktOf = toks.map ktOf := by
  induction toks with
  | nil =>
    intro _ p k hk
    obtain ⟨k, rfl⟩ : ∃ j, k = j + 1 := ⟨k - 1, by omega⟩
    exact ⟨[], rfl, rfl⟩
  | cons t toks ih =>
    intro hg p k hk
    obtain ⟨k, rfl⟩ : ∃ j, k = j + 1 := ⟨k - 1, by omega⟩
    have ht := hg t (List.mem_cons_self ..)
    obtain ⟨c, w, hx, hs, h59⟩ := head_good ht
    rw [List.length_cons] at hk
    obtain ⟨m, hm, hmm⟩ := ih (fun x hx => hg x (List.mem_cons_of_mem _ hx)) (some t.1) k (by omega)
    have hskip : skipS false (joinL p (t :: toks)) = t.2.1 ++ joinL (some t.1) toks := by
      have e : joinL p (t :: toks) = sepP p t.1 ++ t.2.1 ++ joinL (some t.1) toks := rfl
      rw [e, List.append_assoc]
      generalize joinL (some t.1) toks = R
      rw [hx, List.cons_append]
      unfold sepP
      split
      · exact skip_none _ hs h59
      · split
        · show skipS false (32 :: (c :: (w ++ R))) = _
          have e : skipS false (32 :: (c :: (w ++ R))) = skipS false (c :: (w ++ R)) := rfl
          rw [e]; exact skip_none _ hs h59
        · exact skip_none _ hs h59
    have hend : t.1 = 1 ∨ t.1 = 2 ∨ endOK (joinL (some t.1) toks) = true := by
      by_cases h1 : t.1 = 1
      · exact .inl h1
      right; right
      cases toks with
      | nil => rfl
      | cons u toks =>
        have hu := hg u (List.mem_cons_of_mem _ (List.mem_cons_self ..))
        unfold joinL sepP
        simp only
        by_cases h2 : u.1 = 2
        · rw [if_neg (by simp [h2])]
          generalize u.2.1 = y at hu
          rw [h2] at hu
          cases hu
          rfl
        · rw [if_pos ⟨h1, h2⟩]
          rfl
    have hp := piece_good ht (joinL (some t.1) toks) hend
    rw [hskip]
    refine ⟨(t.1, t.2.1, n - (t.2.1 ++ joinL (some t.1) toks).length) :: m, ?_, ?_⟩
    · unfold lexL
      rw [if_neg (by rw [hx]; simp), hp]
      simp only [if_true, List.drop_left, hm]
    · rw [List.map_cons, List.map_cons, hmm]; rfl

theorem lexed_good (n : Nat) : ∀ (k : Nat) (r : List UInt8), (lexL n k r).2.2 = true → (∀ t ∈ (lexL n k r).1, GoodT t.1 t.2.1) ∧ lenL (lexL n k r).1 ≤ r.length ∧ (lexL n k r).1.length ≤ r.length ∧ (lexL n k r).2.1 = n := by
  intro k
  induction k with
  | zero => intro r h; cases h
  | succ k ih =>
    intro r h
    unfold lexL at h ⊢
    by_cases hr : r = []
    · rw [if_pos hr] at h ⊢
      exact ⟨fun t (ht : t ∈ []) => absurd ht (List.not_mem_nil), Nat.zero_le _, Nat.zero_le _, rfl⟩
    · rw [if_neg hr] at h ⊢
      by_cases hp : (pieceP r).2.2 = true
      · rw [if_pos hp] at h ⊢
        have hq := piece_len r hp
        have hs := skipS_len (r.drop (pieceP r).2.1.length) false
        rw [List.length_drop] at hs
        obtain ⟨i1, i2, i3, i4⟩ := ih _ h
        simp only at h ⊢
        rw [if_pos h]
        refine ⟨?_, ?_, ?_, i4⟩
        · intro t ht
          rcases List.mem_cons.1 ht with rfl | ht
          · exact (good_piece r hp).1
          · exact i1 t ht
        · unfold lenL; simp only; omega
        · rw [List.length_cons]; omega
      · rw [if_neg hp] at h; cases h
end Go.Proofs.YtnegkabafigfnaaDoor.Lex
