/- Pure: LexTells: a text has the tokens that the document says. -/
import Derived.Test.YtnegkabafigfnaaDoorPLexTellsx4
import Derived.Test.YtnegkabafigfnaaDoorLexV
import Derived.Test.YtnegkabafigfnaaDoorLexW
namespace Go.Proofs.YtnegkabafigfnaaDoor.Pure
open Go.RowKit Go.Proofs.YtnegkabafigfnaaDoor.Given Go.Proofs.YtnegkabafigfnaaDoor.PLexTells Go.Proofs.YtnegkabafigfnaaDoorW.PrintWords Go.Proofs.YtnegkabafigfnaaDoorW.PrintLast
set_option linter.unusedVariables false
set_option linter.unusedSimpArgs false

/-! ### what lex.Lex answers, as this text's functions tell it -/
theorem ba_eq (x : ByteArray) : (⟨x.data.toList.toArray⟩ : ByteArray) = x := by cases x; rfl
theorem ba_size (l : List UInt8) : (⟨l.toArray⟩ : ByteArray).size = l.length := Lex.mk_size l
theorem ba_toList (l : List UInt8) : (⟨l.toArray⟩ : ByteArray).toList = l := by rw [ByteArray.toList_eq]

theorem hasPrefix_semi (l : List UInt8) : strings_HasPrefix.f ⟨l.toArray⟩ ⟨#[59]⟩ = some (match l with | [] => false | c :: _ => c == 59) := by
  unfold strings_HasPrefix.f stringslite_HasPrefix.f
  cases l with
  | nil => rfl
  | cons c r =>
    rw [ba_size (c :: r)]
    have h1 : (⟨#[59]⟩ : ByteArray).size = 1 := rfl
    rw [h1]
    rw [if_pos (by rw [List.length_cons]; omega), if_pos (by decide), if_pos (by rw [List.length_cons]; omega)]
    simp only [Option.bind_some]
    rw [Lib.extract_toList]
    simp [ByteArray.toList_eq]

theorem trimLeft_sp (l : List UInt8) : strings_TrimLeft.f ⟨l.toArray⟩ ⟨#[9, 10, 13, 32]⟩ = some ⟨(l.dropWhile (Lex.spacesL.contains ·)).toArray⟩ := by
  unfold strings_TrimLeft.f
  rw [if_pos ⟨by decide, by decide⟩]
  rfl

theorem cut_nl (l : List UInt8) (h : l.length < 4294967281) : ∃ a b, strings_Cut.f ⟨l.toArray⟩ ⟨#[10]⟩ = some (a, ⟨((l.dropWhile (· != 10)).drop 1).toArray⟩, b) := by
  have e : strings_Cut.f ⟨l.toArray⟩ ⟨#[10]⟩ = some (⟨(Lib.cut l [10]).1.toArray⟩, ⟨(Lib.cut l [10]).2.1.toArray⟩, (Lib.cut l [10]).2.2) := by
    show (if (⟨l.toArray⟩ : ByteArray).size < 4294967281 then _ else none) = _
    rw [ba_size l, if_pos h]
  rw [e, Lex.cut_nl]
  exact ⟨_, _, rfl⟩

theorem skip_ok : ∀ (n : Nat) (l : List UInt8) (k : Nat), l.length = n → n < k → n < 4294967281 → lex_skip.f k ⟨l.toArray⟩ = some ⟨(Lex.skipS false l).toArray⟩ := by
  intro n
  induction n using Nat.strongRecOn with
  | ind n ih =>
  intro l k hl hk hn
  obtain ⟨k, rfl⟩ : ∃ m, k = m + 1 := ⟨k - 1, by omega⟩
  unfold lex_skip.f
  rw [Lex.skipS_drop]
  have hd : (l.dropWhile (Lex.spacesL.contains ·)).length ≤ l.length := (List.dropWhile_sublist _).length_le
  have hh : ∀ c r, l.dropWhile (Lex.spacesL.contains ·) = c :: r → Lex.spacesL.contains c = false := by
    intro c r h
    have := List.head?_dropWhile_not (Lex.spacesL.contains ·) l
    rw [h] at this
    simpa using this
  simp only [lex_skip.l0]
  rw [trimLeft_sp]
  simp only [Option.bind_some]
  rw [hasPrefix_semi]
  simp only [Option.bind_some]
  generalize l.dropWhile (Lex.spacesL.contains ·) = d at *
  cases d with
  | nil => rfl
  | cons c r =>
    have hc := hh c r rfl
    have e : Lex.skipS false (c :: r) = if Lex.spacesL.contains c then Lex.skipS false r else if c = 59 then Lex.skipS true r else c :: r := rfl
    rw [e, hc]
    simp only [Bool.false_eq_true, if_false]
    by_cases h59 : c = 59
    · subst h59
      rw [if_pos (show ((59 : UInt8) == 59) = true by decide)]
      obtain ⟨a, b, h⟩ := cut_nl (59 :: r) (by omega)
      rw [h]
      simp only [Option.bind_some]
      rw [Lex.skipS_rem, List.dropWhile_cons_of_pos (by decide)]
      have hlen : ((r.dropWhile (· != 10)).drop 1).length ≤ r.length := by
        rw [List.length_drop]
        have := (List.dropWhile_sublist (l := r) (· != 10)).length_le
        omega
      rw [List.length_cons] at hd
      exact ih _ (by omega) _ k rfl (by omega) (by omega)
    · rw [if_neg (by simpa using h59), if_neg h59]

def tokT (x : Int × List UInt8 × Nat) : S35 := ⟨x.1, ⟨x.2.1.toArray⟩, (x.2.2 : Int)⟩
def lexRes (acc : List S35) (r : List (Int × List UInt8 × Nat) × Nat × Bool) : List S35 × Int × Int := if r.2.2 = true then (acc ++ r.1.map tokT, (r.2.1 : Int), 0) else ([], (r.2.1 : Int), 2)

theorem loop_ok (s : ByteArray) (hs : s.size ≤ 20000) : ∀ (d k : Nat) (r : List UInt8) (acc : List S35), r.length < d → r.length + 20002 < k → r.length ≤ s.size → acc.length + r.length ≤ 20000 →
    lex_Lex.l0 k s acc ⟨r.toArray⟩ = some (lexRes acc (Lex.lexL s.size d r)) := by
  intro d
  induction d with
  | zero => intro k r acc h; omega
  | succ d ih =>
    intro k r acc h1 h2 h3 h4
    obtain ⟨k, rfl⟩ : ∃ m, k = m + 1 := ⟨k - 1, by omega⟩
    simp only [lex_Lex.l0]
    unfold Lex.lexL
    by_cases hr : r = []
    · subst hr
      rw [if_pos (by rw [ba_toList]), if_pos rfl]
      simp [lexRes]
    · rw [if_neg (by rw [ba_toList]; exact hr), if_neg hr]
      have hp : lex_piece.f ⟨r.toArray⟩ = some ((Lex.pieceP r).1, ⟨(Lex.pieceP r).2.1.toArray⟩, 0, (Lex.pieceP r).2.2) := by
        unfold lex_piece.f
        rw [ba_size r, if_pos ⟨by cases r with | nil => exact absurd rfl hr | cons _ _ => simp, by omega⟩]
      rw [hp]
      simp only [Option.bind_some]
      have hw : wrap64 ((s.size : Int) - ((⟨r.toArray⟩ : ByteArray).size : Int)) = ((s.size - r.length : Nat) : Int) := by
        rw [ba_size r]; unfold wrap64; omega
      by_cases hq : (Lex.pieceP r).2.2 = true
      · have hl := Lex.piece_len r hq
        rw [if_pos hq, if_pos hq, if_pos (by omega), ba_size (Lex.pieceP r).2.1, if_pos (by omega), if_pos (by rw [ba_size r]; omega)]
        have hx : (⟨r.toArray⟩ : ByteArray).extract (((Lex.pieceP r).2.1.length : Int)).toNat (⟨r.toArray⟩ : ByteArray).size = ⟨(r.drop (Lex.pieceP r).2.1.length).toArray⟩ := by
          apply Go.WideShapes.bytes_inj
          rw [Lib.extract_data, ba_size r, Int.toNat_natCast]
          rw [List.take_of_length_le (by simp)]
        have hsl := Lex.skipS_len (r.drop (Lex.pieceP r).2.1.length) false
        rw [List.length_drop] at hsl
        rw [hx, skip_ok _ _ k rfl (by rw [List.length_drop]; omega) (by rw [List.length_drop]; omega)]
        simp only [Option.bind_some]
        rw [hw, ih k _ _ (by omega) (by omega) (by omega) (by rw [List.length_append, List.length_singleton]; omega)]
        generalize Lex.lexL s.size d (Lex.skipS false (r.drop (Lex.pieceP r).2.1.length)) = q
        unfold lexRes
        by_cases hb : q.2.2 = true
        · rw [if_pos hb, if_pos hb]
          simp [tokT, hb]
        · rw [if_neg hb, if_neg hb]
      · rw [if_neg hq, if_neg hq, hw]
        simp [lexRes]

/-- lex.Lex. -/
theorem lex_ok (s : ByteArray) (hs : s.size ≤ 20000) (k : Nat) (hk : 50000 ≤ k) : lex_Lex.f k s = some (lexRes [] (Lex.lexA s.data.toList)) := by
  unfold lex_Lex.f
  rw [if_neg (by omega)]
  have hsz : s.data.toList.length = s.size := Lex.size_eq s
  have h1 := skip_ok s.size s.data.toList k hsz (by omega) (by omega)
  rw [ba_eq] at h1
  rw [h1]
  simp only [Option.bind_some]
  have hl := Lex.skipS_len s.data.toList false
  rw [hsz] at hl
  rw [loop_ok s hs (s.size + 1) k _ _ (by omega) (by omega) hl (by simp; omega)]
  unfold Lex.lexA
  rw [hsz]

theorem lex_long (s : ByteArray) (hs : 20000 < s.size) (k : Nat) : lex_Lex.f k s = some ([], 0, 7) := by
  unfold lex_Lex.f
  rw [if_pos (by omega)]

theorem shown_ok (k : Nat) (hk : 50000 ≤ k) : ashlarlaw15_shown.f k = some true := by
  unfold ashlarlaw15_shown.f
  rw [lex_ok _ (by decide) k hk, lex_ok _ (by decide) k hk]
  have e1 : lexRes [] (Lex.lexA (⟨#[40, 97, 32, 45, 49, 41, 32, 59, 32, 98]⟩ : ByteArray).data.toList) = ([⟨1, ⟨#[40]⟩, 0⟩, ⟨3, ⟨#[97]⟩, 1⟩, ⟨4, ⟨#[45, 49]⟩, 3⟩, ⟨2, ⟨#[41]⟩, 5⟩], 10, 0) := by
    show lexRes [] (Lex.lexA [40, 97, 32, 45, 49, 41, 32, 59, 32, 98]) = _
    rw [Lex.shownA]; rfl
  have e2 : lexRes [] (Lex.lexA (⟨#[97, 32, 48, 49]⟩ : ByteArray).data.toList) = ([], 2, 2) := by
    show lexRes [] (Lex.lexA [97, 32, 48, 49]) = _
    rw [Lex.shownB]; rfl
  rw [e1, e2]
  decide +kernel

theorem bytes_all (P : UInt8 → Prop) (h : ∀ n : Fin 256, P (UInt8.ofNat n.1)) (c : UInt8) : P c := by
  have := h ⟨c.toNat, c.toNat_lt⟩
  rwa [UInt8.ofNat_toNat] at this
theorem space_is (c : UInt8) : ashlarref15_space.f (c.toNat : Int) = some (Lex.spacesL.contains c) :=
  bytes_all (fun c => ashlarref15_space.f (c.toNat : Int) = some (Lex.spacesL.contains c)) (by decide +kernel) c
theorem letter_is (c : UInt8) : ashlarref15_letter.f (c.toNat : Int) = some (Lex.lettersL.contains c) :=
  bytes_all (fun c => ashlarref15_letter.f (c.toNat : Int) = some (Lex.lettersL.contains c)) (by decide +kernel) c
theorem digit_is (c : UInt8) : ashlarref15_digit.f (c.toNat : Int) = some (Lex.digitsL.contains c) :=
  bytes_all (fun c => ashlarref15_digit.f (c.toNat : Int) = some (Lex.digitsL.contains c)) (by decide +kernel) c
theorem inner_is (c : UInt8) : Lex.innerL.contains c = (Lex.lettersL.contains c || (Lex.digitsL.contains c || (decide ((c.toNat : Int) = 95) || decide ((c.toNat : Int) = 45)))) :=
  bytes_all (fun c => Lex.innerL.contains c = (Lex.lettersL.contains c || (Lex.digitsL.contains c || (decide ((c.toNat : Int) = 95) || decide ((c.toNat : Int) = 45))))) (by decide +kernel) c
theorem ends_is (c : UInt8) : (if Lex.spacesL.contains c = true then some true else (if (c.toNat : Int) = 59 then some true else (if (c.toNat : Int) = 40 then some true else some ((c.toNat : Int) == 41)))) = some (Lex.behindL.contains c) :=
  bytes_all (fun c => (if Lex.spacesL.contains c = true then some true else (if (c.toNat : Int) = 59 then some true else (if (c.toNat : Int) = 40 then some true else some ((c.toNat : Int) == 41)))) = some (Lex.behindL.contains c)) (by decide +kernel) c

theorem bt_here (p r : List UInt8) (c : UInt8) : bt ⟨(p ++ c :: r).toArray⟩ (p.length : Int) = (c.toNat : Int) := by
  have h : (p.length : Int).toNat < (⟨(p ++ c :: r).toArray⟩ : ByteArray).size := by rw [ba_size (p ++ c :: r)]; simp
  rw [← bt_at _ _ h]
  have e : (⟨(p ++ c :: r).toArray⟩ : ByteArray)[(p.length : Int).toNat]'h = c := by
    show (p ++ c :: r).toArray[(p.length : Int).toNat]'_ = c
    simp
  rw [e]

theorem app_one (p r : List UInt8) (c : UInt8) : p ++ c :: r = (p ++ [c]) ++ r := by simp
theorem next_at (p : List UInt8) (c : UInt8) (h : p.length ≤ 50000) : wrap64 ((p.length : Int) + 1) = ((p ++ [c]).length : Int) := by
  rw [List.length_append, List.length_singleton]; unfold wrap64; omega

theorem ends_ok (p r : List UInt8) : ashlarref15_ends.f ⟨(p ++ r).toArray⟩ (p.length : Int) = some (Lex.endOK r) := by
  unfold ashlarref15_ends.f
  rw [ba_size (p ++ r)]
  cases r with
  | nil => rw [if_pos (by simp)]; rfl
  | cons c r =>
    rw [if_neg (by simp; omega), if_pos (by omega), if_pos (by simp; omega), bt_here, space_is]
    simp only [Option.bind_some]
    exact ends_is c

theorem word_letters : ∀ (r q : List UInt8) (x1 : Int) (k : Nat), r.length < k → q.length + r.length ≤ 5000 →
    ashlarref15_word.l0 k ⟨(q ++ r).toArray⟩ x1 (q.length : Int) = some (if Lex.endOK (r.drop (r.takeWhile (Lex.innerL.contains ·)).length) = true then ((q.length + (r.takeWhile (Lex.innerL.contains ·)).length : Nat) : Int) else x1)
  | [], q, x1, k, hk, hl => by
    obtain ⟨k, rfl⟩ : ∃ j, k = j + 1 := ⟨k - 1, by omega⟩
    simp only [ashlarref15_word.l0]
    rw [ba_size (q ++ []), if_neg (by simp), ends_ok q []]
    simp only [Option.bind_some]
    rfl
  | c :: r, q, x1, k, hk, hl => by
    obtain ⟨k, rfl⟩ : ∃ j, k = j + 1 := ⟨k - 1, by omega⟩
    rw [List.length_cons] at hk hl
    have ih := word_letters r (q ++ [c]) x1 k (by omega) (by rw [List.length_append, List.length_singleton]; omega)
    rw [← app_one, ← next_at q c (by omega)] at ih
    have hin := inner_is c
    have hrec : Lex.innerL.contains c = true → ashlarref15_word.l0 k ⟨(q ++ c :: r).toArray⟩ x1 (wrap64 ((q.length : Int) + 1)) = some (if Lex.endOK ((c :: r).drop ((c :: r).takeWhile (Lex.innerL.contains ·)).length) = true then ((q.length + ((c :: r).takeWhile (Lex.innerL.contains ·)).length : Nat) : Int) else x1) := by
      intro h
      rw [ih, List.takeWhile_cons_of_pos h, List.length_cons, List.drop_succ_cons, List.length_append, List.length_singleton]
      rw [show q.length + 1 + (r.takeWhile (Lex.innerL.contains ·)).length = q.length + ((r.takeWhile (Lex.innerL.contains ·)).length + 1) by omega]
    simp only [ashlarref15_word.l0]
    rw [ba_size (q ++ c :: r), if_pos (by simp; omega), if_pos (by omega), bt_here, letter_is]
    simp only [Option.bind_some]
    by_cases h1 : Lex.lettersL.contains c = true
    · rw [if_pos h1]; exact hrec (by rw [hin, h1]; rfl)
    · rw [if_neg h1, digit_is]
      simp only [Option.bind_some]
      by_cases h2 : Lex.digitsL.contains c = true
      · rw [if_pos h2]; exact hrec (by rw [hin, h2]; simp)
      · rw [if_neg h2]
        by_cases h3 : (c.toNat : Int) = 95
        · rw [if_pos h3]; exact hrec (by rw [hin, decide_eq_true h3]; simp)
        · rw [if_neg h3]
          by_cases h4 : (c.toNat : Int) = 45
          · rw [if_pos h4]; exact hrec (by rw [hin, decide_eq_true h4]; simp)
          · rw [if_neg h4, ends_ok q (c :: r)]
            simp only [Option.bind_some]
            have hno : ¬ Lex.innerL.contains c = true := by
              rw [hin, decide_eq_false h3, decide_eq_false h4]
              simp only [Bool.not_eq_true] at h1 h2
              rw [h1, h2]; decide
            rw [List.takeWhile_cons_of_neg hno]
            simp only [List.length_nil, List.drop_zero, Nat.add_zero]
            split <;> rfl

theorem word_digits : ∀ (r q : List UInt8) (x1 x6 : Int) (k : Nat), q.length + r.length ≤ 5000 →
    ashlarref15_word.l1 ((r.takeWhile (Lex.digitsL.contains ·)).length + k + 1) ⟨(q ++ r).toArray⟩ x1 (q.length : Int) x6 = ashlarref15_word.j3 k ⟨(q ++ r).toArray⟩ x1 ((q.length + (r.takeWhile (Lex.digitsL.contains ·)).length : Nat) : Int) x6
  | [], q, x1, x6, k, hl => by
    rw [List.takeWhile_nil, List.length_nil, Nat.zero_add]
    simp only [ashlarref15_word.l1]
    rw [ba_size (q ++ []), if_neg (by simp)]; rfl
  | c :: r, q, x1, x6, k, hl => by
    rw [List.length_cons] at hl
    by_cases hd : Lex.digitsL.contains c = true
    · have ih := word_digits r (q ++ [c]) x1 x6 k (by rw [List.length_append, List.length_singleton]; omega)
      rw [← app_one, ← next_at q c (by omega)] at ih
      rw [List.takeWhile_cons_of_pos hd, List.length_cons]
      rw [show (r.takeWhile (Lex.digitsL.contains ·)).length + 1 + k + 1 = ((r.takeWhile (Lex.digitsL.contains ·)).length + k + 1) + 1 by omega]
      generalize (r.takeWhile (Lex.digitsL.contains ·)).length + k + 1 = M at ih ⊢
      simp only [ashlarref15_word.l1]
      rw [ba_size (q ++ c :: r), if_pos (by simp; omega), if_pos (by omega), bt_here, digit_is]
      simp only [Option.bind_some]
      rw [if_pos hd, ih, List.length_append, List.length_singleton]
      rw [show q.length + 1 + (r.takeWhile (Lex.digitsL.contains ·)).length = q.length + ((r.takeWhile (Lex.digitsL.contains ·)).length + 1) by omega]
    · rw [List.takeWhile_cons_of_neg hd, List.length_nil, Nat.zero_add]
      simp only [ashlarref15_word.l1]
      rw [ba_size (q ++ c :: r), if_pos (by simp; omega), if_pos (by omega), bt_here, digit_is]
      simp only [Option.bind_some]
      rw [if_neg hd]; rfl

theorem ex_mid (q ds R : List UInt8) : ((⟨(q ++ (ds ++ R)).toArray⟩ : ByteArray).extract (q.length : Int).toNat ((q.length + ds.length : Nat) : Int).toNat) = ⟨ds.toArray⟩ := by
  apply Go.WideShapes.bytes_inj
  rw [Lib.extract_data]
  simp
  rw [show (((q.length : Nat) : Int) + ((ds.length : Nat) : Int)).toNat - q.length = ds.length by omega]
  simp

theorem wrap_diff (a b : Nat) (h : a + b ≤ 5000) : wrap64 (((a + b : Nat) : Int) - (a : Int)) = (b : Int) := by unfold wrap64; omega

theorem word_end (q ds R : List UInt8) (sign : Bool) (x1 : Int) (hx : (q.length : Int) > x1 ↔ sign = true) (hd : ∀ c ∈ ds, Lex.isD c) (hl : q.length + ds.length + R.length ≤ 5000) (k : Nat) :
    ∃ b : Bool, (b = true ↔ Lex.numC sign ds ∧ Lex.endOK R = true) ∧ ashlarref15_word.j3 (k + 2) ⟨(q ++ (ds ++ R)).toArray⟩ x1 ((q.length + ds.length : Nat) : Int) (q.length : Int) = some (if b = true then ((q.length + ds.length : Nat) : Int) else x1) := by
  have hj4 : ∀ b, b = true → ashlarref15_word.j4 (k + 1) ⟨(q ++ (ds ++ R)).toArray⟩ x1 ((q.length + ds.length : Nat) : Int) (q.length : Int) b = some x1 := by
    intro b hb
    simp only [ashlarref15_word.j4]
    rw [if_pos hb]
  have hends := ends_ok (q ++ ds) R
  rw [List.append_assoc, List.length_append] at hends
  have hsz := ba_size (q ++ (ds ++ R))
  have hszl : (q ++ (ds ++ R)).length = q.length + ds.length + R.length := by rw [List.length_append, List.length_append]; omega
  -- where the first conditions hold
  have hgo : ds ≠ [] → ds.length ≤ 19 → (∀ r, ds = 48 :: r → r = [] ∧ sign = false) → ∃ b : Bool, (b = true ↔ Lex.numC sign ds ∧ Lex.endOK R = true) ∧ ashlarref15_word.j4 (k + 1) ⟨(q ++ (ds ++ R)).toArray⟩ x1 ((q.length + ds.length : Nat) : Int) (q.length : Int) (!(Lex.endOK R)) = some (if b = true then ((q.length + ds.length : Nat) : Int) else x1) := by
    intro c1 c2 c3
    by_cases hR : Lex.endOK R = true
    · have hnot : (!(Lex.endOK R)) = false := by rw [hR]; rfl
      rw [hnot]
      have hlim : ∀ (lim : List UInt8), lim = Lex.limL sign → ∃ b : Bool, (b = true ↔ Lex.numC sign ds ∧ Lex.endOK R = true) ∧ (if wrap64 (((q.length + ds.length : Nat) : Int) - (q.length : Int)) = 19 then (if 0 ≤ (q.length : Int) then (if (q.length : Int) ≤ ((q.length + ds.length : Nat) : Int) then (if ((q.length + ds.length : Nat) : Int) ≤ (((⟨(q ++ (ds ++ R)).toArray⟩ : ByteArray).size : Nat) : Int) then (if (Op.bytesLess lim (((⟨(q ++ (ds ++ R)).toArray⟩ : ByteArray).extract (q.length : Int).toNat ((q.length + ds.length : Nat) : Int).toNat).toList)) = true then some x1 else some ((q.length + ds.length : Nat) : Int)) else none) else none) else none) else some ((q.length + ds.length : Nat) : Int)) = some (if b = true then ((q.length + ds.length : Nat) : Int) else x1) := by
        intro lim hlim
        rw [wrap_diff _ _ (by omega), ex_mid, ba_toList, hsz, hszl]
        by_cases h19 : ds.length = 19
        · rw [if_pos (by omega), if_pos (by omega), if_pos (by omega), if_pos (by omega)]
          by_cases hb : Op.bytesLess lim ds = true
          · refine ⟨false, ⟨fun h => (by cases h), fun h => absurd (by rw [← hlim]; exact hb) (h.1.2.2.2 h19)⟩, ?_⟩
            rw [if_pos hb]; rfl
          · refine ⟨true, ⟨fun _ => ⟨⟨c1, c2, c3, fun _ => by rw [← hlim]; exact hb⟩, hR⟩, fun _ => rfl⟩, ?_⟩
            rw [if_neg hb]; rfl
        · refine ⟨true, ⟨fun _ => ⟨⟨c1, c2, c3, fun h => absurd h h19⟩, hR⟩, fun _ => rfl⟩, ?_⟩
          rw [if_neg (by omega)]; rfl
      simp only [ashlarref15_word.j4]
      first | rw [if_neg (show ¬ (false = true) by decide)] | skip
      by_cases hs : sign = true
      · rw [if_pos (hx.2 hs)]
        refine hlim _ ?_
        simp [hs, Lex.limL]
      · rw [if_neg (fun h => hs (hx.1 h))]
        refine hlim _ ?_
        simp [hs, Lex.limL]
    · refine ⟨false, ⟨fun h => (by cases h), fun h => absurd h.2 hR⟩, ?_⟩
      rw [hj4 _ (by simpa using hR)]; rfl
  simp only [ashlarref15_word.j3]
  rw [wrap_diff _ _ (by omega), hends]
  simp only [Option.bind_some]
  by_cases h0 : ds = []
  · refine ⟨false, ⟨fun h => (by cases h), fun h => absurd h0 h.1.1⟩, ?_⟩
    rw [if_pos (by rw [h0]; simp), hj4 _ rfl]; rfl
  · have hpos : 0 < ds.length := List.length_pos_iff.2 h0
    rw [if_neg (by omega)]
    by_cases h1 : ds.length ≤ 19
    · rw [if_neg (by omega), if_pos (by omega), hsz, hszl, if_pos (by omega)]
      obtain ⟨c, t, rfl⟩ : ∃ c t, ds = c :: t := by cases ds with | nil => exact absurd rfl h0 | cons c t => exact ⟨c, t, rfl⟩
      have hb := bt_here q (t ++ R) c
      rw [← List.cons_append] at hb
      rw [hb]
      by_cases h48 : (c.toNat : Int) = 48
      · have hc : c = 48 := UInt8.toNat_inj.1 (by show c.toNat = 48; omega)
        rw [if_pos h48]
        by_cases hq : (((c :: t).length : Nat) : Int) > 1
        · refine ⟨false, ⟨fun h => (by cases h), fun h => ?_⟩, ?_⟩
          · have := (h.1.2.2.1 t (by rw [hc])).1
            subst this
            exact absurd hq (by simp)
          · rw [if_pos hq, hj4 _ rfl]; rfl
        · rw [if_neg hq]
          have ht : t = [] := by
            cases t with
            | nil => rfl
            | cons => exact absurd (by simp only [List.length_cons]; omega) hq
          by_cases hs : sign = true
          · refine ⟨false, ⟨fun h => (by cases h), fun h => ?_⟩, ?_⟩
            · have := (h.1.2.2.1 t (by rw [hc])).2
              rw [hs] at this; cases this
            · rw [if_pos (hx.2 hs), hj4 _ rfl]; rfl
          · rw [if_neg (fun h => hs (hx.1 h))]
            exact hgo h0 h1 (fun r hr => by
              injection hr with _ hr
              exact ⟨by rw [← hr]; exact ht, by simpa using hs⟩)
      · rw [if_neg h48]
        exact hgo h0 h1 (fun r hr => by
          injection hr with hr _
          exact absurd (by rw [hr]; rfl) h48)
    · refine ⟨false, ⟨fun h => (by cases h), fun h => absurd h.1.2.1 h1⟩, ?_⟩
      rw [if_pos (by omega), hj4 _ rfl]; rfl

theorem take_tw (p : UInt8 → Bool) (l : List UInt8) : l.take (l.takeWhile p).length = l.takeWhile p := by
  have e := congrArg (List.take (l.takeWhile p).length) (List.takeWhile_append_dropWhile (p := p) (l := l))
  rw [List.take_left] at e
  exact e.symm
theorem take_split (l : List UInt8) : ∃ R, l = l.takeWhile (Lex.digitsL.contains ·) ++ R ∧ R = l.drop (l.takeWhile (Lex.digitsL.contains ·)).length ∧ ∀ c ∈ l.takeWhile (Lex.digitsL.contains ·), Lex.isD c := by
  refine ⟨_, ?_, rfl, fun c hc => (Lex.digits_iff c).1 (List.all_eq_true.1 (List.all_takeWhile (p := (Lex.digitsL.contains ·)) (l := l)) c hc)⟩
  have := (List.takeWhile_append_dropWhile (p := (Lex.digitsL.contains ·)) (l := l))
  conv => lhs; rw [← this]
  congr 1
  have e := congrArg (List.drop (List.takeWhile (Lex.digitsL.contains ·) l).length) this
  rw [List.drop_left] at e
  exact e

/-- The end of the word or the number that stands at a place. -/
theorem word_ok (p l : List UInt8) (c : UInt8) (hc : Lex.lettersL.contains c = true ∨ c = 45 ∨ Lex.isD c) (hl : p.length + l.length + 1 ≤ 5000) (k : Nat) (hk : l.length + 10 < k) :
    ashlarref15_word.f k ⟨(p ++ c :: l).toArray⟩ (p.length : Int) = some (if (Lex.pieceP (c :: l)).2.2 = true then ((p.length + (Lex.pieceP (c :: l)).2.1.length : Nat) : Int) else (p.length : Int)) := by
  unfold ashlarref15_word.f
  rw [ba_size (p ++ c :: l), if_pos (by omega), if_pos (by simp; omega), bt_here, letter_is]
  simp only [Option.bind_some]
  by_cases hL : Lex.lettersL.contains c = true
  · rw [if_pos hL, word_letters (c :: l) p _ k (by simp; omega) (by simp; omega)]
    obtain ⟨-, -, h40, h41⟩ := Lex.letters_ns hL
    unfold Lex.pieceP
    simp only
    rw [if_neg h40, if_neg h41, if_pos hL]
  · have hc2 : c = 45 ∨ Lex.isD c := hc.resolve_left hL
    rw [if_neg hL, Lex.piece_num c l hc2]
    by_cases h45 : c = 45
    · subst h45
      rw [if_pos (by decide), next_at p 45 (by omega)]
      obtain ⟨R, hR, hR2, hdig⟩ := take_split l
      have hnt : Lex.numText (45 :: l) = 45 :: l.takeWhile (Lex.digitsL.contains ·) := by
        unfold Lex.numText
        rw [Lex.trim_yes, List.length_cons, show l.length + 1 - l.length = 1 by omega, Nat.add_comm, List.take_succ_cons]
        rw [take_tw]
      have hlen : (l.takeWhile (Lex.digitsL.contains ·)).length ≤ l.length := (List.takeWhile_sublist _).length_le
      rw [hnt, List.length_cons, List.drop_succ_cons, ← hR2]
      obtain ⟨k, rfl⟩ : ∃ j, k = ((l.takeWhile (Lex.digitsL.contains ·)).length + (j + 2) + 1) + 1 := ⟨k - (l.takeWhile (Lex.digitsL.contains ·)).length - 4, by omega⟩
      simp only [ashlarref15_word.j1]
      rw [app_one p l 45, word_digits l (p ++ [45]) _ _ (k + 2) (by rw [List.length_append, List.length_singleton]; omega)]
      have hw := word_end (p ++ [45]) (l.takeWhile (Lex.digitsL.contains ·)) R true (p.length : Int) (by simp; omega) hdig (by
        have := congrArg List.length hR
        rw [List.length_append] at this ⊢; rw [List.length_singleton]; omega) k
      rw [← hR] at hw
      obtain ⟨b, hb, hw⟩ := hw
      rw [hw]
      have hiff := Lex.numC_iff true _ hdig
      have e45 : (if true = true then [(45 : UInt8)] else []) ++ l.takeWhile (Lex.digitsL.contains ·) = 45 :: l.takeWhile (Lex.digitsL.contains ·) := rfl
      rw [e45] at hiff
      rw [← hiff] at hb
      rw [show (p ++ [(45 : UInt8)]).length + (l.takeWhile (Lex.digitsL.contains ·)).length = p.length + ((l.takeWhile (Lex.digitsL.contains ·)).length + 1) by rw [List.length_append, List.length_singleton]; omega]
      by_cases hn : Lex.numOK (45 :: l.takeWhile (Lex.digitsL.contains ·)) = true
      · rw [if_pos hn]
        by_cases he : Lex.endOK R = true
        · rw [hb.2 ⟨hn, he⟩, he] <;> rfl
        · have : b = false := by cases b with | false => rfl | true => exact absurd (hb.1 rfl).2 he
          first | (rw [this, if_neg (by decide), if_neg (by exact he)]; done) | (rw [this, if_neg (by decide)]; done) | (simp [this, he]; done)
      · have : b = false := by cases b with | false => rfl | true => exact absurd (hb.1 rfl).1 hn
        first | (rw [this, if_neg (by decide), if_neg hn, if_neg (by decide)]; done) | (simp [this, hn]; done)
    · have hd : Lex.isD c := hc2.resolve_left h45
      have hne : ¬ (c.toNat : Int) = 45 := by unfold Lex.isD at hd; omega
      rw [if_neg hne]
      obtain ⟨R, hR, hR2, hdig⟩ := take_split (c :: l)
      have hnt : Lex.numText (c :: l) = (c :: l).takeWhile (Lex.digitsL.contains ·) := by
        unfold Lex.numText
        rw [Lex.trim_no _ h45, Nat.sub_self, Nat.zero_add]
        rw [take_tw]
      have hlen : ((c :: l).takeWhile (Lex.digitsL.contains ·)).length ≤ (c :: l).length := (List.takeWhile_sublist _).length_le
      rw [List.length_cons] at hlen
      rw [hnt, ← hR2]
      obtain ⟨k, rfl⟩ : ∃ j, k = (((c :: l).takeWhile (Lex.digitsL.contains ·)).length + (j + 2) + 1) + 1 := ⟨k - ((c :: l).takeWhile (Lex.digitsL.contains ·)).length - 4, by omega⟩
      simp only [ashlarref15_word.j1]
      rw [word_digits (c :: l) p _ _ (k + 2) (by rw [List.length_cons]; omega)]
      have hw := word_end p ((c :: l).takeWhile (Lex.digitsL.contains ·)) R false (p.length : Int) (by simp) hdig (by
        have := congrArg List.length hR
        rw [List.length_append, List.length_cons] at this; omega) k
      rw [← hR] at hw
      obtain ⟨b, hb, hw⟩ := hw
      rw [hw]
      have hiff := Lex.numC_iff false _ hdig
      have e45 : (if false = true then [(45 : UInt8)] else []) ++ (c :: l).takeWhile (Lex.digitsL.contains ·) = (c :: l).takeWhile (Lex.digitsL.contains ·) := rfl
      rw [e45] at hiff
      rw [← hiff] at hb
      by_cases hn : Lex.numOK ((c :: l).takeWhile (Lex.digitsL.contains ·)) = true
      · rw [if_pos hn]
        by_cases he : Lex.endOK R = true
        · rw [hb.2 ⟨hn, he⟩, he] <;> rfl
        · have : b = false := by cases b with | false => rfl | true => exact absurd (hb.1 rfl).2 he
          first | (rw [this, if_neg (by decide), if_neg (by exact he)]; done) | (rw [this, if_neg (by decide)]; done) | (simp [this, he]; done)
      · have : b = false := by cases b with | false => rfl | true => exact absurd (hb.1 rfl).1 hn
        first | (rw [this, if_neg (by decide), if_neg hn, if_neg (by decide)]; done) | (simp [this, hn]; done)

def tok44 (x : Int × List UInt8 × Nat) : S44 := ⟨x.1, ⟨x.2.1.toArray⟩, (x.2.2 : Int)⟩
def res44 (acc : List S44) (r : List (Int × List UInt8 × Nat) × Nat × Bool) : List S44 × Int × Int := if r.2.2 = true then (acc ++ r.1.map tok44, (r.2.1 : Int), 0) else ([], (r.2.1 : Int), 2)
theorem res_step (acc : List S44) (x : Int × List UInt8 × Nat) (q : List (Int × List UInt8 × Nat) × Nat × Bool) : res44 (acc ++ [tok44 x]) q = res44 acc ((if q.2.2 = true then x :: q.1 else []), q.2) := by
  obtain ⟨l, e, ok⟩ := q
  cases ok with
  | false => rfl
  | true => unfold res44; simp

def SpecA (m : Nat) : Prop := ∀ (r p : List UInt8) (acc : List S44) (k d : Nat), r.length = m → m < d → 3 * m + 20 < k → p.length + m ≤ 2000 → acc.length + m ≤ 2000 →
  ashlarref15_Lex.l0 k ⟨(p ++ r).toArray⟩ acc (p.length : Int) = some (res44 acc (Lex.lexL (p.length + m) d (Lex.skipS false r)))
def SpecB (m : Nat) : Prop := ∀ (r p : List UInt8) (acc : List S44) (k d : Nat), r.length = m → m < d → 3 * m + 21 < k → p.length + m ≤ 2000 → acc.length + m ≤ 2000 →
  ashlarref15_Lex.l1 k ⟨(p ++ r).toArray⟩ acc (p.length : Int) = some (res44 acc (Lex.lexL (p.length + m) d (Lex.skipS true r)))

theorem not_letter (c : UInt8) (h : Lex.lettersL.contains c = false) (h2 : Lex.digitsL.contains c = false) (h3 : c ≠ 45) (h4 : c ≠ 40) (h5 : c ≠ 41) (l : List UInt8) : (Lex.pieceP (c :: l)).2.2 = false := by
  have hnt : Lex.numText (c :: l) = [] := by
    unfold Lex.numText
    rw [Lex.trim_no _ h3, List.takeWhile_cons_of_neg (by rw [h2]; decide), Nat.sub_self]; rfl
  unfold Lex.pieceP
  simp only
  rw [if_neg h4, if_neg h5, if_neg (by rw [h]; decide), hnt, if_neg (by decide)]

/-- What stands behind a word's end. -/
theorem tell_step (m : Nat) (ih : ∀ i, i < m → SpecA i) (c : UInt8) (l p : List UInt8) (acc : List S44) (k d : Nat) (hm : l.length + 1 = m) (hmd : m < d + 1) (hk : 3 * m + 17 < k) (hp : p.length + m ≤ 2000) (ha : acc.length + m ≤ 2000)
    (h40 : c ≠ 40) (h41 : c ≠ 41) :
    ashlarref15_Lex.j3 (k + 1) ⟨(p ++ c :: l).toArray⟩ acc (p.length : Int) (c.toNat : Int) (if (Lex.pieceP (c :: l)).2.2 = true then ((p.length + (Lex.pieceP (c :: l)).2.1.length : Nat) : Int) else (p.length : Int)) = some (res44 acc (Lex.lexL (p.length + m) (d + 1) (c :: l))) := by
  simp only [ashlarref15_Lex.j3]
  unfold Lex.lexL
  have hpl : p.length + m - (c :: l).length = p.length := by rw [List.length_cons]; omega
  rw [if_neg (show ¬ (c :: l) = [] by simp), hpl]
  by_cases hq : (Lex.pieceP (c :: l)).2.2 = true
  · have hlen := Lex.piece_len (c :: l) hq
    obtain ⟨hgood, hsplit⟩ := Lex.good_piece (c :: l) hq
    have hkind : (Lex.pieceP (c :: l)).1 = if Lex.lettersL.contains c = true then 3 else 4 := by
      unfold Lex.pieceP at hq ⊢
      simp only at hq ⊢
      rw [if_neg h40, if_neg h41] at hq ⊢
      by_cases h : Lex.lettersL.contains c = true
      · rw [if_pos h, if_pos h]
      · rw [if_neg h] at hq ⊢
        rw [if_neg h]
        by_cases h2 : Lex.numOK (Lex.numText (c :: l)) = true
        · rw [if_pos h2]
        · rw [if_neg h2] at hq; cases hq
    rw [List.length_cons] at hlen
    rw [if_pos hq, if_pos hq]
    generalize hP : Lex.pieceP (c :: l) = P at *
    obtain ⟨kd, tx, ok⟩ := P
    simp only at hq hlen hgood hsplit hkind ⊢
    generalize hR : (c :: l).drop tx.length = R at *
    have hRl : tx.length + R.length = m := by
      have := congrArg List.length hsplit
      rw [List.length_cons, List.length_append] at this; omega
    rw [if_neg (by omega), letter_is]
    simp only [Option.bind_some]
    have hex : (⟨(p ++ c :: l).toArray⟩ : ByteArray).extract (p.length : Int).toNat ((p.length + tx.length : Nat) : Int).toNat = ⟨tx.toArray⟩ := by
      rw [hsplit]; exact ex_mid p tx R
    have hsz : ((⟨(p ++ c :: l).toArray⟩ : ByteArray).size : Int) = ((p.length + m : Nat) : Int) := by
      rw [ba_size (p ++ c :: l), List.length_append, List.length_cons]; congr 1; omega
    have hrec : ashlarref15_Lex.l0 k ⟨(p ++ c :: l).toArray⟩ (acc ++ [(⟨kd, ⟨tx.toArray⟩, (p.length : Int)⟩ : S44)]) ((p.length + tx.length : Nat) : Int) = some (res44 acc ((if (Lex.lexL (p.length + m) d (Lex.skipS false R)).2.2 = true then (kd, tx, p.length) :: (Lex.lexL (p.length + m) d (Lex.skipS false R)).1 else []), (Lex.lexL (p.length + m) d (Lex.skipS false R)).2)) := by
      have h := ih R.length (by omega) R (p ++ tx) (acc ++ [tok44 (kd, tx, p.length)]) k d rfl (by omega) (by omega) (by rw [List.length_append]; omega) (by rw [List.length_append, List.length_singleton]; omega)
      rw [List.append_assoc, ← hsplit, List.length_append, show p.length + tx.length + R.length = p.length + m by omega, res_step] at h
      exact h
    rw [hex, hsz]
    by_cases h : Lex.lettersL.contains c = true
    · rw [if_pos h] at hkind ⊢
      rw [if_pos (by omega), if_pos (by omega), if_pos (by omega), if_pos (by omega), ← hkind]
      exact hrec
    · rw [if_neg h] at hkind ⊢
      rw [if_pos (by omega), if_pos (by omega), if_pos (by omega), if_pos (by omega), ← hkind]
      exact hrec
  · rw [if_neg hq, if_neg hq, if_pos rfl]
    rfl

theorem brack_step (m : Nat) (ih : ∀ i, i < m → SpecA i) (c : UInt8) (kd : Int) (l p : List UInt8) (acc : List S44) (k d : Nat) (hm : l.length + 1 = m) (hmd : m < d + 1) (hk : 3 * m + 17 < k) (hp : p.length + m ≤ 2000) (ha : acc.length + m ≤ 2000)
    (hpc : Lex.pieceP (c :: l) = (kd, [c], true)) :
    ashlarref15_Lex.l0 k ⟨(p ++ c :: l).toArray⟩ (acc ++ [(⟨kd, ⟨[c].toArray⟩, (p.length : Int)⟩ : S44)]) (wrap64 ((p.length : Int) + 1)) = some (res44 acc (Lex.lexL (p.length + m) (d + 1) (c :: l))) := by
  unfold Lex.lexL
  have hpl : p.length + m - (c :: l).length = p.length := by rw [List.length_cons]; omega
  rw [if_neg (show ¬ (c :: l) = [] by simp), hpl, hpc]
  simp only [if_true]
  have h := ih l.length (by omega) l (p ++ [c]) (acc ++ [tok44 (kd, [c], p.length)]) k d rfl (by omega) (by omega) (by rw [List.length_append, List.length_singleton]; omega) (by rw [List.length_append, List.length_singleton]; omega)
  rw [← app_one, ← next_at p c (by omega), List.length_append, List.length_singleton, show p.length + 1 + l.length = p.length + m by omega, res_step] at h
  exact h

theorem tell_all : ∀ m, SpecA m ∧ SpecB m := by
  intro m
  induction m using Nat.strongRecOn with
  | ind m ih =>
  have hA : SpecA m := by
    intro r p acc k d hr hmd hk hp ha
    obtain ⟨k, rfl⟩ : ∃ j, k = j + 1 := ⟨k - 1, by omega⟩
    obtain ⟨d, rfl⟩ : ∃ j, d = j + 1 := ⟨d - 1, by omega⟩
    simp only [ashlarref15_Lex.l0]
    rw [ba_size (p ++ r), List.length_append, hr]
    cases r with
    | nil =>
      rw [List.length_nil] at hr
      subst hr
      rw [if_neg (by omega)]
      unfold Lex.skipS Lex.lexL res44
      simp
    | cons c l =>
      rw [List.length_cons] at hr
      rw [if_pos (by omega), if_pos (by omega), bt_here, space_is]
      simp only [Option.bind_some]
      have es : Lex.skipS false (c :: l) = if Lex.spacesL.contains c then Lex.skipS false l else if c = 59 then Lex.skipS true l else c :: l := rfl
      rw [es]
      by_cases hs : Lex.spacesL.contains c = true
      · rw [if_pos hs, if_pos hs]
        have h := (ih l.length (by omega)).1 l (p ++ [c]) acc k (d + 1) rfl (by omega) (by omega) (by rw [List.length_append, List.length_singleton]; omega) (by omega)
        rw [← app_one, ← next_at p c (by omega), List.length_append, List.length_singleton, show p.length + 1 + l.length = p.length + m by omega] at h
        exact h
      · rw [if_neg hs, if_neg hs]
        by_cases h59 : c = 59
        · rw [if_pos (by rw [h59]; rfl), if_pos h59]
          obtain ⟨k, rfl⟩ : ∃ j, k = j + 1 := ⟨k - 1, by omega⟩
          simp only [ashlarref15_Lex.l1]
          rw [ba_size (p ++ c :: l), if_pos (by simp; omega), if_pos (by omega), bt_here, if_neg (by rw [h59]; decide)]
          have h := (ih l.length (by omega)).2 l (p ++ [c]) acc k (d + 1) rfl (by omega) (by omega) (by rw [List.length_append, List.length_singleton]; omega) (by omega)
          rw [← app_one, ← next_at p c (by omega), List.length_append, List.length_singleton, show p.length + 1 + l.length = p.length + m by omega] at h
          exact h
        · have n59 : ¬ (c.toNat : Int) = 59 := fun h => h59 (UInt8.toNat_inj.1 (by show c.toNat = 59; omega))
          rw [if_neg n59, if_neg h59]
          by_cases h40 : c = 40
          · subst h40
            rw [if_pos (by decide), if_pos (by omega)]
            exact brack_step m (fun i hi => (ih i hi).1) 40 1 l p acc k d hr (by omega) (by omega) hp ha rfl
          · have n40 : ¬ (c.toNat : Int) = 40 := fun h => h40 (UInt8.toNat_inj.1 (by show c.toNat = 40; omega))
            rw [if_neg n40]
            by_cases h41 : c = 41
            · subst h41
              rw [if_pos (by decide), if_pos (by omega)]
              exact brack_step m (fun i hi => (ih i hi).1) 41 2 l p acc k d hr (by omega) (by omega) hp ha rfl
            · have n41 : ¬ (c.toNat : Int) = 41 := fun h => h41 (UInt8.toNat_inj.1 (by show c.toNat = 41; omega))
              rw [if_neg n41, letter_is]
              simp only [Option.bind_some]
              obtain ⟨k, rfl⟩ : ∃ j, k = j + 2 := ⟨k - 2, by omega⟩
              have hword : (Lex.lettersL.contains c = true ∨ c = 45 ∨ Lex.isD c) → ashlarref15_Lex.j2 (k + 2) ⟨(p ++ c :: l).toArray⟩ acc (p.length : Int) (c.toNat : Int) (p.length : Int) true = some (res44 acc (Lex.lexL (p.length + m) (d + 1) (c :: l))) := by
                intro hc
                simp only [ashlarref15_Lex.j2]
                rw [word_ok p l c hc (by omega) (k + 1) (by omega)]
                simp only [Option.bind_some]
                exact tell_step m (fun i hi => (ih i hi).1) c l p acc k d hr (by omega) (by omega) hp ha h40 h41
              by_cases hL : Lex.lettersL.contains c = true
              · rw [if_pos hL]; exact hword (.inl hL)
              · rw [if_neg hL, digit_is]
                simp only [Option.bind_some]
                by_cases hD : Lex.digitsL.contains c = true
                · rw [if_pos hD]; exact hword (.inr (.inr ((Lex.digits_iff c).1 hD)))
                · rw [if_neg hD]
                  by_cases h45 : c = 45
                  · have : ((c.toNat : Int) == 45) = true := by rw [h45]; rfl
                    rw [this]; exact hword (.inr (.inl h45))
                  · have : ((c.toNat : Int) == 45) = false := beq_eq_false_iff_ne.2 (fun h => h45 (UInt8.toNat_inj.1 (by show c.toNat = 45; omega)))
                    rw [this]
                    have hbad := not_letter c (by simpa using hL) (by simpa using hD) h45 h40 h41 l
                    have h := tell_step m (fun i hi => (ih i hi).1) c l p acc k d hr (by omega) (by omega) hp ha h40 h41
                    rw [if_neg (by rw [hbad]; decide)] at h
                    simp only [ashlarref15_Lex.j2]
                    first | exact h | (rw [if_neg (by decide)]; exact h)
  refine ⟨hA, ?_⟩
  intro r p acc k d hr hmd hk hp ha
  obtain ⟨k, rfl⟩ : ∃ j, k = j + 1 := ⟨k - 1, by omega⟩
  simp only [ashlarref15_Lex.l1]
  rw [ba_size (p ++ r), List.length_append, hr]
  have h0 := hA r p acc k d hr hmd (by omega) hp ha
  cases r with
  | nil =>
    rw [List.length_nil] at hr
    subst hr
    rw [if_neg (by omega)]
    exact h0
  | cons c l =>
    rw [List.length_cons] at hr
    rw [if_pos (by omega), if_pos (by omega), bt_here]
    have es : Lex.skipS true (c :: l) = if c = 10 then Lex.skipS false l else Lex.skipS true l := rfl
    rw [es]
    by_cases h10 : c = 10
    · rw [if_pos (by rw [h10]; rfl), if_pos h10]
      have e2 : Lex.skipS false (c :: l) = Lex.skipS false l := by rw [h10]; rfl
      rw [e2] at h0
      exact h0
    · have n10 : ¬ (c.toNat : Int) = 10 := fun h => h10 (UInt8.toNat_inj.1 (by show c.toNat = 10; omega))
      rw [if_neg n10, if_neg h10]
      have h := (ih l.length (by omega)).2 l (p ++ [c]) acc k d rfl (by omega) (by omega) (by rw [List.length_append, List.length_singleton]; omega) (by omega)
      rw [← app_one, ← next_at p c (by omega), List.length_append, List.length_singleton, show p.length + 1 + l.length = p.length + m by omega] at h
      exact h

theorem ref_ok (l : List UInt8) (hl : l.length ≤ 2000) (k : Nat) (hk : 50000 ≤ k) : ashlarref15_Lex.f k ⟨l.toArray⟩ = some (res44 [] (Lex.lexA l)) := by
  unfold ashlarref15_Lex.f
  rw [ba_size l, if_neg (by omega)]
  have h := (tell_all l.length).1 l [] [] k (l.length + 1) rfl (by omega) (by omega) (by rw [List.length_nil]; omega) (by rw [List.length_nil]; omega)
  rw [List.nil_append, List.length_nil, Nat.zero_add] at h
  exact h

theorem rd_tok (l : List (Int × List UInt8 × Nat)) (i : Nat) (h : i < l.length) : rd_T35 (l.map tokT) (i : Int) = tokT l[i] := by
  unfold rd_T35
  rw [Int.toNat_natCast]
  simp [List.getD, List.getElem?_map, List.getElem?_eq_getElem h]
theorem rd_tok44 (l : List (Int × List UInt8 × Nat)) (i : Nat) (h : i < l.length) : rd_T44 (l.map tok44) (i : Int) = tok44 l[i] := by
  unfold rd_T44
  rw [Int.toNat_natCast]
  simp [List.getD, List.getElem?_map, List.getElem?_eq_getElem h]
theorem wrap_next (i : Nat) (h : i ≤ 50000) : wrap64 ((i : Int) + 1) = ((i + 1 : Nat) : Int) := by
  unfold wrap64; omega

theorem same_loop (l : List (Int × List UInt8 × Nat)) (hl : l.length ≤ 5000) : ∀ (d i k : Nat), i + d = l.length → d < k → ashlarlaw15_same.l0 k (l.map tokT) (l.map tok44) (i : Int) = some true := by
  intro d
  induction d with
  | zero =>
    intro i k hi hk
    obtain ⟨k, rfl⟩ : ∃ j, k = j + 1 := ⟨k - 1, by omega⟩
    simp only [ashlarlaw15_same.l0]
    rw [List.length_map, if_neg (by omega)]
  | succ d ih =>
    intro i k hi hk
    obtain ⟨k, rfl⟩ : ∃ j, k = j + 1 := ⟨k - 1, by omega⟩
    simp only [ashlarlaw15_same.l0]
    rw [List.length_map, List.length_map, if_pos (by omega), if_pos (by omega), if_pos (by omega)]
    rw [rd_tok l i (by omega), rd_tok44 l i (by omega)]
    rw [if_pos (show (tokT (l[i]'(by omega))).f0 = (tok44 (l[i]'(by omega))).f0 from rfl), if_pos (show (tokT (l[i]'(by omega))).f1.toList = (tok44 (l[i]'(by omega))).f1.toList from rfl), if_pos (show (tokT (l[i]'(by omega))).f2 = (tok44 (l[i]'(by omega))).f2 from rfl), wrap_next i (by omega)]
    exact ih (i + 1) k (by omega) (by omega)

theorem few_ok (a : ByteArray) : ∃ b : List UInt8, ashlarlaw15_few.f a = some ⟨b.toArray⟩ ∧ b.length ≤ 2000 := by
  unfold ashlarlaw15_few.f
  have h : 0 ≤ mn (a.size : Int) 2000 ∧ mn (a.size : Int) 2000 ≤ a.size ∧ mn (a.size : Int) 2000 ≤ 2000 := by unfold mn; split <;> omega
  rw [if_pos h.1, if_pos h.2.1]
  refine ⟨(a.extract 0 ((mn (a.size : Int) 2000) : Int).toNat).data.toList, by rw [ba_eq], ?_⟩
  rw [Lex.size_eq, ByteArray.size_extract]; omega

theorem LexTells : ashlarlaw15_LexTells.Pure := by
  intro a ha
  obtain ⟨k, hk⟩ : ∃ k : Nat, 100000 < k := ⟨100001, by omega⟩
  refine ⟨k, ?_⟩
  obtain ⟨s, hs, hl⟩ := few_ok a
  unfold ashlarlaw15_LexTells.f
  rw [shown_ok _ (by omega), hs]
  simp only [Option.bind_some]
  rw [lex_ok ⟨s.toArray⟩ (by rw [ba_size s]; omega) k (by omega), ref_ok s hl k (by omega)]
  have hA : Lex.lexA (⟨s.toArray⟩ : ByteArray).data.toList = Lex.lexA s := rfl
  rw [hA]
  simp only [Option.bind_some]
  have hg := Lex.lexed_good s.length (s.length + 1) (Lex.skipS false s)
  have hsl := Lex.skipS_len s false
  have hB : Lex.lexA s = Lex.lexL s.length (s.length + 1) (Lex.skipS false s) := rfl
  rw [← hB] at hg
  clear hA hB
  generalize Lex.lexA s = q at *
  obtain ⟨A, e, ok⟩ := q
  have hsame : ∀ l : List (Int × List UInt8 × Nat), l.length ≤ 5000 → ashlarlaw15_same.f k (l.map tokT) (l.map tok44) = some true := by
    intro l hl
    unfold ashlarlaw15_same.f
    rw [List.length_map, List.length_map, if_pos rfl]
    exact same_loop l hl l.length 0 k (by omega) (by omega)
  cases ok with
  | false =>
    have r1 : lexRes [] (A, e, false) = ([], (e : Int), 2) := rfl
    have r2 : res44 [] (A, e, false) = ([], (e : Int), 2) := rfl
    have h := hsame [] (by simp)
    have h2 : ashlarlaw15_same.f k [] [] = some true := h
    rw [r1, r2]
    simp only
    rw [h2]
    simp
  | true =>
    obtain ⟨-, -, g3, -⟩ := hg rfl
    simp only at g3
    have r1 : lexRes [] (A, e, true) = (A.map tokT, (e : Int), 0) := rfl
    have r2 : res44 [] (A, e, true) = (A.map tok44, (e : Int), 0) := rfl
    rw [r1, r2]
    simp only
    rw [hsame A (by omega)]
    simp

end Go.Proofs.YtnegkabafigfnaaDoor.Pure
