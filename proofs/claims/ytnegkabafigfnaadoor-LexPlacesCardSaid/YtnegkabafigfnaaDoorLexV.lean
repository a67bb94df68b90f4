/- Plain: two texts with a line's end between have the tokens of both. -/
import Derived.Test.YtnegkabafigfnaaDoorLexM
namespace Go.Proofs.YtnegkabafigfnaaDoor.Lex

theorem take_stop (p : UInt8 → Bool) (l t : List UInt8) (c : UInt8) (h : p c = false) : (l ++ c :: t).takeWhile p = l.takeWhile p := by
  induction l with
  | nil => rw [List.nil_append, List.takeWhile_cons_of_neg (by rw [h]; decide)]; rfl
  | cons a l ih =>
    rw [List.cons_append]
    by_cases ha : p a = true
    · rw [List.takeWhile_cons_of_pos ha, List.takeWhile_cons_of_pos ha, ih]
    · rw [List.takeWhile_cons_of_neg ha, List.takeWhile_cons_of_neg ha]

theorem endOK_app (l t : List UInt8) : endOK (l ++ 10 :: t) = endOK l := by
  cases l with
  | nil => rfl
  | cons c l => rfl

theorem trim_app (c : UInt8) (l t : List UInt8) : Lib.trimPrefix (c :: (l ++ t)) [45] = Lib.trimPrefix (c :: l) [45] ++ t := by
  by_cases h : c = 45
  · subst h; rw [trim_yes, trim_yes]
  · rw [trim_no _ h, trim_no _ h, List.cons_append]

theorem trim_len (c : UInt8) (l : List UInt8) : (Lib.trimPrefix (c :: l) [45]).length ≤ (c :: l).length := by
  by_cases h : c = 45
  · subst h; rw [trim_yes, List.length_cons]; omega
  · rw [trim_no _ h]; exact Nat.le_refl _

theorem numText_app (c : UInt8) (l t : List UInt8) : numText (c :: (l ++ 10 :: t)) = numText (c :: l) := by
  unfold numText
  have ht := trim_len c l
  rw [trim_app, take_stop _ _ _ _ (by decide), ← List.cons_append]
  generalize Lib.trimPrefix (c :: l) [45] = T at *
  have hw : (T.takeWhile (digitsL.contains ·)).length ≤ T.length := (List.takeWhile_sublist _).length_le
  rw [List.length_append, List.length_append]
  rw [show (c :: l).length + (10 :: t).length - (T.length + (10 :: t).length) = (c :: l).length - T.length by omega]
  rw [List.take_append_of_le_length (by omega)]

theorem piece_app (c : UInt8) (l t : List UInt8) : pieceP (c :: (l ++ 10 :: t)) = pieceP (c :: l) := by
  have e1 : (c :: (l ++ 10 :: t)).takeWhile (innerL.contains ·) = (c :: l).takeWhile (innerL.contains ·) := by
    rw [← List.cons_append, take_stop _ _ _ _ (by decide)]
  have e2 := numText_app c l t
  have h1 : ((c :: l).takeWhile (innerL.contains ·)).length ≤ (c :: l).length := (List.takeWhile_sublist _).length_le
  have h2 := numText_le (c :: l)
  have e3 : endOK ((c :: (l ++ 10 :: t)).drop ((c :: l).takeWhile (innerL.contains ·)).length) = endOK ((c :: l).drop ((c :: l).takeWhile (innerL.contains ·)).length) := by
    rw [← List.cons_append, List.drop_append_of_le_length h1, endOK_app]
  have e4 : endOK ((c :: (l ++ 10 :: t)).drop (numText (c :: l)).length) = endOK ((c :: l).drop (numText (c :: l)).length) := by
    rw [← List.cons_append, List.drop_append_of_le_length h2, endOK_app]
  unfold pieceP
  simp only [e1, e2, e3, e4]

theorem skip_app (t : List UInt8) : ∀ (l : List UInt8) (b : Bool), skipS b (l ++ 10 :: t) = if skipS b l = [] then skipS false t else skipS b l ++ 10 :: t
  | [], b => by
    cases b <;> rfl
  | c :: l, true => by
    have h1 := skip_app t l false
    have h2 := skip_app t l true
    rw [List.cons_append]
    have e1 : skipS true (c :: (l ++ 10 :: t)) = if c = 10 then skipS false (l ++ 10 :: t) else skipS true (l ++ 10 :: t) := rfl
    have e2 : skipS true (c :: l) = if c = 10 then skipS false l else skipS true l := rfl
    rw [e1, e2]
    by_cases h : c = 10
    · rw [if_pos h, if_pos h]; exact h1
    · rw [if_neg h, if_neg h]; exact h2
  | c :: l, false => by
    have h1 := skip_app t l false
    have h2 := skip_app t l true
    rw [List.cons_append]
    have e1 : skipS false (c :: (l ++ 10 :: t)) = if spacesL.contains c then skipS false (l ++ 10 :: t) else if c = 59 then skipS true (l ++ 10 :: t) else c :: (l ++ 10 :: t) := rfl
    have e2 : skipS false (c :: l) = if spacesL.contains c then skipS false l else if c = 59 then skipS true l else c :: l := rfl
    rw [e1, e2]
    by_cases h : spacesL.contains c = true
    · rw [if_pos h, if_pos h]; exact h1
    · rw [if_neg h, if_neg h]
      by_cases h5 : c = 59
      · rw [if_pos h5, if_pos h5]; exact h2
      · rw [if_neg h5, if_neg h5, if_neg (by simp)]; rfl

theorem lexL_nil (n : Nat) : ∀ (d : Nat) (r : List UInt8), (lexL n d r).2.2 = false → (lexL n d r).1 = [] := by
  intro d
  cases d with
  | zero => intro r _; rfl
  | succ d =>
    intro r h
    unfold lexL at h ⊢
    by_cases hr : r = []
    · rw [if_pos hr]
    · rw [if_neg hr] at h ⊢
      by_cases hp : (pieceP r).2.2 = true
      · rw [if_pos hp] at h ⊢
        simp only at h ⊢
        rw [if_neg (by rw [h]; decide)]
      · rw [if_neg hp]

theorem lexL_place (n : Nat) : ∀ (d : Nat) (r : List UInt8), ∀ x ∈ (lexL n d r).1, x.2.2 ≤ n := by
  intro d
  induction d with
  | zero => intro r x (h : x ∈ []); cases h
  | succ d ih =>
    intro r x h
    unfold lexL at h
    by_cases hr : r = []
    · rw [if_pos hr] at h; exact absurd (show x ∈ [] from h) List.not_mem_nil
    · rw [if_neg hr] at h
      by_cases hp : (pieceP r).2.2 = true
      · rw [if_pos hp] at h
        simp only at h
        split at h
        · rcases List.mem_cons.1 h with rfl | h
          · exact Nat.sub_le _ _
          · exact ih _ x h
        · cases h
      · rw [if_neg hp] at h; exact absurd (show x ∈ [] from h) List.not_mem_nil

theorem lexL_end (n : Nat) : ∀ (d : Nat) (r : List UInt8), (lexL n d r).2.1 ≤ n := by
  intro d
  induction d with
  | zero => intro r; exact Nat.zero_le _
  | succ d ih =>
    intro r
    unfold lexL
    by_cases hr : r = []
    · rw [if_pos hr]; exact Nat.le_refl _
    · rw [if_neg hr]
      by_cases hp : (pieceP r).2.2 = true
      · rw [if_pos hp]; exact ih _
      · rw [if_neg hp]; exact Nat.sub_le _ _

def shiftT (K : Nat) (x : Int × List UInt8 × Nat) : Int × List UInt8 × Nat := (x.1, x.2.1, K + x.2.2)
def shiftR (K : Nat) (q : List (Int × List UInt8 × Nat) × Nat × Bool) : List (Int × List UInt8 × Nat) × Nat × Bool := (q.1.map (shiftT K), K + q.2.1, q.2.2)

theorem lexL_shift (K M : Nat) : ∀ (d : Nat) (r : List UInt8), r.length < d → r.length ≤ M → lexL (K + M) d r = shiftR K (lexL M d r) := by
  intro d
  induction d with
  | zero => intro r h; omega
  | succ d ih =>
    intro r h1 h2
    unfold lexL
    by_cases hr : r = []
    · rw [if_pos hr, if_pos hr]; rfl
    · rw [if_neg hr, if_neg hr]
      by_cases hp : (pieceP r).2.2 = true
      · have hq := piece_len r hp
        have hs := skipS_len (r.drop (pieceP r).2.1.length) false
        rw [List.length_drop] at hs
        rw [if_pos hp, if_pos hp, ih _ (by omega) (by omega)]
        generalize lexL M d (skipS false (r.drop (pieceP r).2.1.length)) = q
        obtain ⟨l, e, ok⟩ := q
        have hpl : K + M - r.length = K + (M - r.length) := by omega
        cases ok with
        | false => rfl
        | true =>
          unfold shiftR shiftT
          simp only [if_true, List.map_cons, hpl]
      · rw [if_neg hp, if_neg hp]
        have hpl : K + M - r.length = K + (M - r.length) := by omega
        unfold shiftR
        simp only [List.map_nil, hpl]

/-- What two texts with a line's end between have. -/
def glue (N : Nat) (A B : List (Int × List UInt8 × Nat) × Nat × Bool) : List (Int × List UInt8 × Nat) × Nat × Bool :=
  if A.2.2 = true then (if B.2.2 = true then (A.1 ++ B.1.map (shiftT (N + 1)), N + 1 + B.2.1, true) else ([], N + 1 + B.2.1, false)) else ([], A.2.1, false)

theorem lexL_app (N : Nat) (t : List UInt8) : ∀ (d : Nat) (r : List UInt8), r.length + t.length + 1 < d → r.length ≤ N →
    lexL (N + 1 + t.length) d (if r = [] then skipS false t else r ++ 10 :: t) = glue N (lexL N d r) (lexL t.length (t.length + 1) (skipS false t)) := by
  intro d
  induction d with
  | zero => intro r h; omega
  | succ d ih =>
    intro r h1 h2
    by_cases hr : r = []
    · rw [if_pos hr]
      have hs := skipS_len t false
      have e : lexL t.length (t.length + 1) (skipS false t) = lexL t.length (d + 1) (skipS false t) := lexL_fuel _ _ _ _ (by omega) (by omega)
      rw [lexL_shift _ _ _ _ (by omega) hs, e]
      have ha : lexL N (d + 1) r = ([], N, true) := by unfold lexL; rw [if_pos hr]
      rw [ha]
      have hn := lexL_nil t.length (d + 1) (skipS false t)
      generalize lexL t.length (d + 1) (skipS false t) = q at *
      obtain ⟨l, e, ok⟩ := q
      cases ok with
      | true => rfl
      | false =>
        have : l = [] := hn rfl
        subst this; rfl
    · rw [if_neg hr]
      obtain ⟨c, l, rfl⟩ : ∃ c l, r = c :: l := by cases r with | nil => exact absurd rfl hr | cons c l => exact ⟨c, l, rfl⟩
      have hp := piece_app c l t
      generalize lexL t.length (t.length + 1) (skipS false t) = B at *
      rw [List.cons_append]
      unfold lexL
      rw [if_neg (by simp), if_neg hr, hp]
      have hpl : N + 1 + t.length - (c :: (l ++ 10 :: t)).length = N - (c :: l).length := by
        rw [List.length_cons, List.length_append, List.length_cons, List.length_cons]; omega
      rw [hpl]
      by_cases hq : (pieceP (c :: l)).2.2 = true
      · have hlen := piece_len (c :: l) hq
        have hs := skipS_len ((c :: l).drop (pieceP (c :: l)).2.1.length) false
        rw [List.length_drop] at hs
        rw [if_pos hq, if_pos hq]
        have e : skipS false ((c :: (l ++ 10 :: t)).drop (pieceP (c :: l)).2.1.length) = if skipS false ((c :: l).drop (pieceP (c :: l)).2.1.length) = [] then skipS false t else skipS false ((c :: l).drop (pieceP (c :: l)).2.1.length) ++ 10 :: t := by
          rw [← List.cons_append, List.drop_append_of_le_length hlen.2, skip_app]
        rw [e, ih _ (by omega) (by omega)]
        generalize lexL N d (skipS false ((c :: l).drop (pieceP (c :: l)).2.1.length)) = q
        obtain ⟨x, y, ok⟩ := q
        obtain ⟨x', y', ok'⟩ := B
        cases ok <;> cases ok' <;> rfl
      · rw [if_neg hq, if_neg hq]
        rfl

theorem lexA_app (s t : List UInt8) : lexA (s ++ 10 :: t) = glue s.length (lexA s) (lexA t) := by
  unfold lexA
  have hs := skipS_len s false
  rw [skip_app, List.length_append, List.length_cons]
  have h := lexL_app s.length t (s.length + (t.length + 1) + 1) (skipS false s)
  rw [show s.length + 1 + t.length = s.length + (t.length + 1) by omega] at h
  by_cases hq : (skipS false s).length + t.length + 1 < s.length + (t.length + 1) + 1
  · rw [h hq hs, lexL_fuel s.length (s.length + (t.length + 1) + 1) (s.length + 1) _ (by omega) (by omega)]
  · have h2 := lexL_app s.length t (s.length + (t.length + 1) + 2) (skipS false s) (by omega) hs
    rw [show s.length + 1 + t.length = s.length + (t.length + 1) by omega] at h2
    rw [lexL_fuel s.length (s.length + (t.length + 1) + 2) (s.length + 1) _ (by omega) (by omega)] at h2
    rw [← h2]
    have hl : ∀ x : List UInt8, x = (if skipS false s = [] then skipS false t else skipS false s ++ 10 :: t) → x.length ≤ s.length + (t.length + 1) := by
      intro x hx
      have ht := skipS_len t false
      rw [hx]; split
      · omega
      · rw [List.length_append, List.length_cons]; omega
    have := hl _ rfl
    exact lexL_fuel _ _ _ _ (by omega) (by omega)
end Go.Proofs.YtnegkabafigfnaaDoor.Lex
