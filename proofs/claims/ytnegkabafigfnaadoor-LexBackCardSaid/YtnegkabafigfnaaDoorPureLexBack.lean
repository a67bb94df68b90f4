/- Pure: LexBack: what is joined has the same tokens. -/
import Derived.Test.YtnegkabafigfnaaDoorPLexBackx2
import Derived.Test.YtnegkabafigfnaaDoorLexM
namespace Go.Proofs.YtnegkabafigfnaaDoor.Pure
open Go.RowKit Go.Proofs.YtnegkabafigfnaaDoor.Given Go.Proofs.YtnegkabafigfnaaDoor.PLexBack Go.Proofs.YtnegkabafigfnaaDoorW.PrintWords Go.Proofs.YtnegkabafigfnaaDoorW.PrintLast
set_option linter.unusedVariables false
set_option linter.unusedSimpArgs false

/-! ### what lex.Lex answers, as this text's functions tell it -/
theorem ba_eq (x : ByteArray) : (⟨x.data.toList.toArray⟩ : ByteArray) = x := by cases x; rfl
theorem ba_size (l : List UInt8) : (⟨l.toArray⟩ : ByteArray).size = l.length := Lex.mk_size l
theorem ba_toList (l : List UInt8) : (⟨l.toArray⟩ : ByteArray).toList = l := by rw [ByteArray.toList_eq]

theorem hasPrefix_semi (l : List UInt8) : strings_HasPrefix.f ⟨l.toArray⟩ ⟨#[59]⟩ = some (match l with | [] => false | c :: _ => c == 59) := by
  unfold strings_HasPrefix.f stringslite_HasPrefix.f
  cases l with
  | nil => rfl
  | cons c r =>
    rw [ba_size (c :: r)]
    have h1 : (⟨#[59]⟩ : ByteArray).size = 1 := rfl
    rw [h1]
    rw [if_pos (by rw [List.length_cons]; omega), if_pos (by decide), if_pos (by rw [List.length_cons]; omega)]
    simp only [Option.bind_some]
    rw [Lib.extract_toList]
    simp [ByteArray.toList_eq]

theorem trimLeft_sp (l : List UInt8) : strings_TrimLeft.f ⟨l.toArray⟩ ⟨#[9, 10, 13, 32]⟩ = some ⟨(l.dropWhile (Lex.spacesL.contains ·)).toArray⟩ := by
  unfold strings_TrimLeft.f
  rw [if_pos ⟨by decide, by decide⟩]
  rfl

theorem cut_nl (l : List UInt8) (h : l.length < 4294967281) : ∃ a b, strings_Cut.f ⟨l.toArray⟩ ⟨#[10]⟩ = some (a, ⟨((l.dropWhile (· != 10)).drop 1).toArray⟩, b) := by
  have e : strings_Cut.f ⟨l.toArray⟩ ⟨#[10]⟩ = some (⟨(Lib.cut l [10]).1.toArray⟩, ⟨(Lib.cut l [10]).2.1.toArray⟩, (Lib.cut l [10]).2.2) := by
    show (if (⟨l.toArray⟩ : ByteArray).size < 4294967281 then _ else none) = _
    rw [ba_size l, if_pos h]
  rw [e, Lex.cut_nl]
  exact ⟨_, _, rfl⟩

theorem skip_ok : ∀ (n : Nat) (l : List UInt8) (k : Nat), l.length = n → n < k → n < 4294967281 → lex_skip.f k ⟨l.toArray⟩ = some ⟨(Lex.skipS false l).toArray⟩ := by
  intro n
  induction n using Nat.strongRecOn with
  | ind n ih =>
  intro l k hl hk hn
  obtain ⟨k, rfl⟩ : ∃ m, k = m + 1 := ⟨k - 1, by omega⟩
  unfold lex_skip.f
  rw [Lex.skipS_drop]
  have hd : (l.dropWhile (Lex.spacesL.contains ·)).length ≤ l.length := (List.dropWhile_sublist _).length_le
  have hh : ∀ c r, l.dropWhile (Lex.spacesL.contains ·) = c :: r → Lex.spacesL.contains c = false := by
    intro c r h
    have := List.head?_dropWhile_not (Lex.spacesL.contains ·) l
    rw [h] at this
    simpa using this
  simp only [lex_skip.l0]
  rw [trimLeft_sp]
  simp only [Option.bind_some]
  rw [hasPrefix_semi]
  simp only [Option.bind_some]
  generalize l.dropWhile (Lex.spacesL.contains ·) = d at *
  cases d with
  | nil => rfl
  | cons c r =>
    have hc := hh c r rfl
    have e : Lex.skipS false (c :: r) = if Lex.spacesL.contains c then Lex.skipS false r else if c = 59 then Lex.skipS true r else c :: r := rfl
    rw [e, hc]
    simp only [Bool.false_eq_true, if_false]
    by_cases h59 : c = 59
    · subst h59
      rw [if_pos (show ((59 : UInt8) == 59) = true by decide)]
      obtain ⟨a, b, h⟩ := cut_nl (59 :: r) (by omega)
      rw [h]
      simp only [Option.bind_some]
      rw [Lex.skipS_rem, List.dropWhile_cons_of_pos (by decide)]
      have hlen : ((r.dropWhile (· != 10)).drop 1).length ≤ r.length := by
        rw [List.length_drop]
        have := (List.dropWhile_sublist (l := r) (· != 10)).length_le
        omega
      rw [List.length_cons] at hd
      exact ih _ (by omega) _ k rfl (by omega) (by omega)
    · rw [if_neg (by simpa using h59), if_neg h59]

def tokT (x : Int × List UInt8 × Nat) : S35 := ⟨x.1, ⟨x.2.1.toArray⟩, (x.2.2 : Int)⟩
def lexRes (acc : List S35) (r : List (Int × List UInt8 × Nat) × Nat × Bool) : List S35 × Int × Int := if r.2.2 = true then (acc ++ r.1.map tokT, (r.2.1 : Int), 0) else ([], (r.2.1 : Int), 2)

theorem loop_ok (s : ByteArray) (hs : s.size ≤ 20000) : ∀ (d k : Nat) (r : List UInt8) (acc : List S35), r.length < d → r.length + 20002 < k → r.length ≤ s.size → acc.length + r.length ≤ 20000 →
    lex_Lex.l0 k s acc ⟨r.toArray⟩ = some (lexRes acc (Lex.lexL s.size d r)) := by
  intro d
  induction d with
  | zero => intro k r acc h; omega
  | succ d ih =>
    intro k r acc h1 h2 h3 h4
    obtain ⟨k, rfl⟩ : ∃ m, k = m + 1 := ⟨k - 1, by omega⟩
    simp only [lex_Lex.l0]
    unfold Lex.lexL
    by_cases hr : r = []
    · subst hr
      rw [if_pos (by rw [ba_toList]), if_pos rfl]
      simp [lexRes]
    · rw [if_neg (by rw [ba_toList]; exact hr), if_neg hr]
      have hp : lex_piece.f ⟨r.toArray⟩ = some ((Lex.pieceP r).1, ⟨(Lex.pieceP r).2.1.toArray⟩, 0, (Lex.pieceP r).2.2) := by
        unfold lex_piece.f
        rw [ba_size r, if_pos ⟨by cases r with | nil => exact absurd rfl hr | cons _ _ => simp, by omega⟩]
      rw [hp]
      simp only [Option.bind_some]
      have hw : wrap64 ((s.size : Int) - ((⟨r.toArray⟩ : ByteArray).size : Int)) = ((s.size - r.length : Nat) : Int) := by
        rw [ba_size r]; unfold wrap64; omega
      by_cases hq : (Lex.pieceP r).2.2 = true
      · have hl := Lex.piece_len r hq
        rw [if_pos hq, if_pos hq, if_pos (by omega), ba_size (Lex.pieceP r).2.1, if_pos (by omega), if_pos (by rw [ba_size r]; omega)]
        have hx : (⟨r.toArray⟩ : ByteArray).extract (((Lex.pieceP r).2.1.length : Int)).toNat (⟨r.toArray⟩ : ByteArray).size = ⟨(r.drop (Lex.pieceP r).2.1.length).toArray⟩ := by
          apply Go.WideShapes.bytes_inj
          rw [Lib.extract_data, ba_size r, Int.toNat_natCast]
          rw [List.take_of_length_le (by simp)]
        have hsl := Lex.skipS_len (r.drop (Lex.pieceP r).2.1.length) false
        rw [List.length_drop] at hsl
        rw [hx, skip_ok _ _ k rfl (by rw [List.length_drop]; omega) (by rw [List.length_drop]; omega)]
        simp only [Option.bind_some]
        rw [hw, ih k _ _ (by omega) (by omega) (by omega) (by rw [List.length_append, List.length_singleton]; omega)]
        generalize Lex.lexL s.size d (Lex.skipS false (r.drop (Lex.pieceP r).2.1.length)) = q
        unfold lexRes
        by_cases hb : q.2.2 = true
        · rw [if_pos hb, if_pos hb]
          simp [tokT, hb]
        · rw [if_neg hb, if_neg hb]
      · rw [if_neg hq, if_neg hq, hw]
        simp [lexRes]

/-- lex.Lex. -/
theorem lex_ok (s : ByteArray) (hs : s.size ≤ 20000) (k : Nat) (hk : 50000 ≤ k) : lex_Lex.f k s = some (lexRes [] (Lex.lexA s.data.toList)) := by
  unfold lex_Lex.f
  rw [if_neg (by omega)]
  have hsz : s.data.toList.length = s.size := Lex.size_eq s
  have h1 := skip_ok s.size s.data.toList k hsz (by omega) (by omega)
  rw [ba_eq] at h1
  rw [h1]
  simp only [Option.bind_some]
  have hl := Lex.skipS_len s.data.toList false
  rw [hsz] at hl
  rw [loop_ok s hs (s.size + 1) k _ _ (by omega) (by omega) hl (by simp; omega)]
  unfold Lex.lexA
  rw [hsz]

theorem lex_long (s : ByteArray) (hs : 20000 < s.size) (k : Nat) : lex_Lex.f k s = some ([], 0, 7) := by
  unfold lex_Lex.f
  rw [if_pos (by omega)]

theorem shown_ok (k : Nat) (hk : 50000 ≤ k) : ashlarlaw15_shown.f k = some true := by
  unfold ashlarlaw15_shown.f
  rw [lex_ok _ (by decide) k hk, lex_ok _ (by decide) k hk]
  have e1 : lexRes [] (Lex.lexA (⟨#[40, 97, 32, 45, 49, 41, 32, 59, 32, 98]⟩ : ByteArray).data.toList) = ([⟨1, ⟨#[40]⟩, 0⟩, ⟨3, ⟨#[97]⟩, 1⟩, ⟨4, ⟨#[45, 49]⟩, 3⟩, ⟨2, ⟨#[41]⟩, 5⟩], 10, 0) := by
    show lexRes [] (Lex.lexA [40, 97, 32, 45, 49, 41, 32, 59, 32, 98]) = _
    rw [Lex.shownA]; rfl
  have e2 : lexRes [] (Lex.lexA (⟨#[97, 32, 48, 49]⟩ : ByteArray).data.toList) = ([], 2, 2) := by
    show lexRes [] (Lex.lexA [97, 32, 48, 49]) = _
    rw [Lex.shownB]; rfl
  rw [e1, e2]
  decide +kernel

theorem few_ok (a : ByteArray) : ∃ b : ByteArray, ashlarlaw15_few.f a = some b ∧ b.size ≤ 2000 ∧ b.size ≤ a.size := by
  unfold ashlarlaw15_few.f
  have h : 0 ≤ mn (a.size : Int) 2000 ∧ mn (a.size : Int) 2000 ≤ a.size ∧ mn (a.size : Int) 2000 ≤ 2000 := by unfold mn; split <;> omega
  rw [if_pos h.1, if_pos h.2.1]
  refine ⟨_, rfl, ?_, ?_⟩ <;> (rw [ByteArray.size_extract]; omega)

theorem join_ok (l : List (Int × List UInt8 × Nat)) (h : (Lex.joinL none l).length + 1 + l.length ≤ 1000000) : lex_Join.f (l.map tokT) = some ⟨(Lex.joinL none l).toArray⟩ := by
  have e : (l.map tokT).map tupT = l.map Lex.tkOf := by rw [List.map_map]; rfl
  unfold lex_Join.f Lex.joinP
  rw [e, Lex.joinFrom_tk, List.length_map, if_pos h]

theorem rd_tok (l : List (Int × List UInt8 × Nat)) (i : Nat) (h : i < l.length) : rd_T35 (l.map tokT) (i : Int) = tokT l[i] := by
  unfold rd_T35
  rw [Int.toNat_natCast]
  simp [List.getD, List.getElem?_map, List.getElem?_eq_getElem h]

theorem back_loop (l m : List (Int × List UInt8 × Nat)) (hm : m.map Lex.ktOf = l.map Lex.ktOf) (hl : l.length ≤ 5000) (t : ByteArray) (hj : lex_Join.f (m.map tokT) = some t) : ∀ (d i k : Nat), i + d = l.length → d < k → ashlarlaw15_LexBack.l0 k true (l.map tokT) t (m.map tokT) (i : Int) = some true := by
  have hlen : m.length = l.length := by have := congrArg List.length hm; simpa using this
  intro d
  induction d with
  | zero =>
    intro i k hi hk
    obtain ⟨k, rfl⟩ : ∃ j, k = j + 1 := ⟨k - 1, by omega⟩
    simp only [ashlarlaw15_LexBack.l0]
    rw [List.length_map, if_neg (by omega), hj]
    simp
  | succ d ih =>
    intro i k hi hk
    obtain ⟨k, rfl⟩ : ∃ j, k = j + 1 := ⟨k - 1, by omega⟩
    simp only [ashlarlaw15_LexBack.l0]
    rw [List.length_map, List.length_map, if_pos (by omega), if_pos (by omega), if_pos (by omega)]
    rw [rd_tok l i (by omega), rd_tok m i (by omega)]
    have e : Lex.ktOf (m[i]'(by omega)) = Lex.ktOf (l[i]'(by omega)) := by
      have h1 := congrArg (fun q => q[i]?) hm
      simp only [List.getElem?_map, List.getElem?_eq_getElem (show i < m.length by omega), List.getElem?_eq_getElem (show i < l.length by omega), Option.map_some] at h1
      exact Option.some.inj h1
    obtain ⟨e1, e2⟩ := Prod.mk.inj (show ((m[i]'(by omega)).1, (m[i]'(by omega)).2.1) = ((l[i]'(by omega)).1, (l[i]'(by omega)).2.1) from e)
    have f1 : (tokT (m[i]'(by omega))).f0 = (tokT (l[i]'(by omega))).f0 := e1
    have f2 : (tokT (m[i]'(by omega))).f1 = (tokT (l[i]'(by omega))).f1 := by show (⟨(m[i]'(by omega)).2.1.toArray⟩ : ByteArray) = ⟨(l[i]'(by omega)).2.1.toArray⟩; rw [e2]
    rw [if_pos f1.symm, if_pos (by rw [f2])]
    have hw : wrap64 ((i : Int) + 1) = ((i + 1 : Nat) : Int) := by unfold wrap64; omega
    rw [hw]
    exact ih (i + 1) k (by omega) (by omega)

theorem add_small (a b c : Nat) (h1 : a ≤ 5000) (h2 : b ≤ 5000) (h : c ≤ a + b) : decide ((c : Int) > wrap64 ((a : Int) + (b : Int))) = false := by
  have e : wrap64 ((a : Int) + (b : Int)) = (a : Int) + (b : Int) := by unfold wrap64; omega
  rw [e]
  exact decide_eq_false (by omega)

theorem LexBack : ashlarlaw15_LexBack.Pure := by
  intro a ha
  obtain ⟨k, hk⟩ : ∃ k : Nat, 100000 < k := ⟨100001, by omega⟩
  refine ⟨k, ?_⟩
  obtain ⟨b, hb, hb1, hb2⟩ := few_ok a
  unfold ashlarlaw15_LexBack.f
  rw [shown_ok _ (by omega), hb]
  simp only [Option.bind_some]
  rw [lex_ok b (by omega) _ (by omega)]
  have hsz : b.data.toList.length = b.size := Lex.size_eq b
  have hsk := Lex.skipS_len b.data.toList false
  have hgood := Lex.lexed_good b.data.toList.length (b.data.toList.length + 1) (Lex.skipS false b.data.toList)
  have hA : Lex.lexA b.data.toList = Lex.lexL b.data.toList.length (b.data.toList.length + 1) (Lex.skipS false b.data.toList) := rfl
  rw [← hA] at hgood
  generalize Lex.lexA b.data.toList = q at *
  obtain ⟨toks, e, ok⟩ := q
  cases ok with
  | false =>
    have : lexRes [] (toks, e, false) = ([], (e : Int), 2) := rfl
    rw [this]
    simp
  | true =>
    obtain ⟨g1, g2, g3, g4⟩ := hgood rfl
    simp only at g1 g2 g3 g4
    have : lexRes [] (toks, e, true) = (toks.map tokT, (e : Int), 0) := rfl
    rw [this]
    have hjl := Lex.joinL_len toks none
    have hj := join_ok toks (by omega)
    simp only [Option.bind_some]
    rw [if_pos trivial, hj]
    simp only [Option.bind_some]
    rw [lex_ok _ (by rw [ba_size (Lex.joinL none toks)]; omega) _ (by omega)]
    obtain ⟨m, hm, hmm⟩ := Lex.relex (Lex.joinL none toks).length toks g1 none (toks.length + (Lex.joinL none toks).length + 1) (by omega)
    have hml : m.length = toks.length := by have := congrArg List.length hmm; simpa using this
    have hsl := Lex.skipS_len (Lex.joinL none toks) false
    have hl : Lex.lexA (⟨(Lex.joinL none toks).toArray⟩ : ByteArray).data.toList = (m, (Lex.joinL none toks).length, true) := by
      show Lex.lexA (Lex.joinL none toks) = _
      unfold Lex.lexA
      rw [← hm]
      exact Lex.lexL_fuel _ _ _ _ (by omega) (by omega)
    rw [hl]
    have : lexRes [] (m, (Lex.joinL none toks).length, true) = (m.map tokT, ((Lex.joinL none toks).length : Int), 0) := rfl
    rw [this]
    simp only [Option.bind_some]
    rw [ba_size (Lex.joinL none toks), if_pos rfl, List.length_map, List.length_map, hml, if_pos rfl]
    have hd := add_small b.size toks.length (Lex.joinL none toks).length (by omega) (by omega) (by omega)
    rw [hd]
    obtain ⟨k, rfl⟩ : ∃ j, k = j + 1 := ⟨k - 1, by omega⟩
    simp only [ashlarlaw15_LexBack.j0]
    have hj2 := join_ok m (by rw [Lex.joinL_kt m toks hmm none, hml]; omega)
    rw [Lex.joinL_kt m toks hmm none] at hj2
    exact back_loop toks m hmm (by omega) _ hj2 toks.length 0 k (by omega) (by omega)

end Go.Proofs.YtnegkabafigfnaaDoor.Pure
