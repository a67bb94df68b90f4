/- Pure: LexApart: two texts with a line's end between have the tokens of both. -/
import Derived.Test.YtnegkabafigfnaaDoorPLexApartx3
import Derived.Test.YtnegkabafigfnaaDoorLexV
namespace Go.Proofs.YtnegkabafigfnaaDoor.Pure
open Go.RowKit Go.Proofs.YtnegkabafigfnaaDoor.Given Go.Proofs.YtnegkabafigfnaaDoor.PLexApart Go.Proofs.YtnegkabafigfnaaDoorW.PrintWords Go.Proofs.YtnegkabafigfnaaDoorW.PrintLast
set_option linter.unusedVariables false
set_option linter.unusedSimpArgs false

/-! ### what lex.Lex answers, as this text's functions tell it -/
theorem ba_eq (x : ByteArray) : (⟨x.data.toList.toArray⟩ : ByteArray) = x := by cases x; rfl
theorem ba_size (l : List UInt8) : (⟨l.toArray⟩ : ByteArray).size = l.length := Lex.mk_size l
theorem ba_toList (l : List UInt8) : (⟨l.toArray⟩ : ByteArray).toList = l := by rw [ByteArray.toList_eq]

theorem hasPrefix_semi (l : List UInt8) : strings_HasPrefix.f ⟨l.toArray⟩ ⟨#[59]⟩ = some (match l with | [] => false | c :: _ => c == 59) := by
  unfold strings_HasPrefix.f stringslite_HasPrefix.f
  cases l with
  | nil => rfl
  | cons c r =>
    rw [ba_size (c :: r)]
    have h1 : (⟨#[59]⟩ : ByteArray).size = 1 := rfl
    rw [h1]
    rw [if_pos (by rw [List.length_cons]; omega), if_pos (by decide), if_pos (by rw [List.length_cons]; omega)]
    simp only [Option.bind_some]
    rw [Lib.extract_toList]
    simp [ByteArray.toList_eq]

theorem trimLeft_sp (l : List UInt8) : strings_TrimLeft.f ⟨l.toArray⟩ ⟨#[9, 10, 13, 32]⟩ = some ⟨(l.dropWhile (Lex.spacesL.contains ·)).toArray⟩ := by
  unfold strings_TrimLeft.f
  rw [if_pos ⟨by decide, by decide⟩]
  rfl

theorem cut_nl (l : List UInt8) (h : l.length < 4294967281) : ∃ a b, strings_Cut.f ⟨l.toArray⟩ ⟨#[10]⟩ = some (a, ⟨((l.dropWhile (· != 10)).drop 1).toArray⟩, b) := by
  have e : strings_Cut.f ⟨l.toArray⟩ ⟨#[10]⟩ = some (⟨(Lib.cut l [10]).1.toArray⟩, ⟨(Lib.cut l [10]).2.1.toArray⟩, (Lib.cut l [10]).2.2) := by
    show (if (⟨l.toArray⟩ : ByteArray).size < 4294967281 then _ else none) = _
    rw [ba_size l, if_pos h]
  rw [e, Lex.cut_nl]
  exact ⟨_, _, rfl⟩

theorem skip_ok : ∀ (n : Nat) (l : List UInt8) (k : Nat), l.length = n → n < k → n < 4294967281 → lex_skip.f k ⟨l.toArray⟩ = some ⟨(Lex.skipS false l).toArray⟩ := by
  intro n
  induction n using Nat.strongRecOn with
  | ind n ih =>
  intro l k hl hk hn
  obtain ⟨k, rfl⟩ : ∃ m, k = m + 1 := ⟨k - 1, by omega⟩
  unfold lex_skip.f
  rw [Lex.skipS_drop]
  have hd : (l.dropWhile (Lex.spacesL.contains ·)).length ≤ l.length := (List.dropWhile_sublist _).length_le
  have hh : ∀ c r, l.dropWhile (Lex.spacesL.contains ·) = c :: r → Lex.spacesL.contains c = false := by
    intro c r h
    have := List.head?_dropWhile_not (Lex.spacesL.contains ·) l
    rw [h] at this
    simpa using this
  simp only [lex_skip.l0]
  rw [trimLeft_sp]
  simp only [Option.bind_some]
  rw [hasPrefix_semi]
  simp only [Option.bind_some]
  generalize l.dropWhile (Lex.spacesL.contains ·) = d at *
  cases d with
  | nil => rfl
  | cons c r =>
    have hc := hh c r rfl
    have e : Lex.skipS false (c :: r) = if Lex.spacesL.contains c then Lex.skipS false r else if c = 59 then Lex.skipS true r else c :: r := rfl
    rw [e, hc]
    simp only [Bool.false_eq_true, if_false]
    by_cases h59 : c = 59
    · subst h59
      rw [if_pos (show ((59 : UInt8) == 59) = true by decide)]
      obtain ⟨a, b, h⟩ := cut_nl (59 :: r) (by omega)
      rw [h]
      simp only [Option.bind_some]
      rw [Lex.skipS_rem, List.dropWhile_cons_of_pos (by decide)]
      have hlen : ((r.dropWhile (· != 10)).drop 1).length ≤ r.length := by
        rw [List.length_drop]
        have := (List.dropWhile_sublist (l := r) (· != 10)).length_le
        omega
      rw [List.length_cons] at hd
      exact ih _ (by omega) _ k rfl (by omega) (by omega)
    · rw [if_neg (by simpa using h59), if_neg h59]

def tokT (x : Int × List UInt8 × Nat) : S35 := ⟨x.1, ⟨x.2.1.toArray⟩, (x.2.2 : Int)⟩
def lexRes (acc : List S35) (r : List (Int × List UInt8 × Nat) × Nat × Bool) : List S35 × Int × Int := if r.2.2 = true then (acc ++ r.1.map tokT, (r.2.1 : Int), 0) else ([], (r.2.1 : Int), 2)

theorem loop_ok (s : ByteArray) (hs : s.size ≤ 20000) : ∀ (d k : Nat) (r : List UInt8) (acc : List S35), r.length < d → r.length + 20002 < k → r.length ≤ s.size → acc.length + r.length ≤ 20000 →
    lex_Lex.l0 k s acc ⟨r.toArray⟩ = some (lexRes acc (Lex.lexL s.size d r)) := by
  intro d
  induction d with
  | zero => intro k r acc h; omega
  | succ d ih =>
    intro k r acc h1 h2 h3 h4
    obtain ⟨k, rfl⟩ : ∃ m, k = m + 1 := ⟨k - 1, by omega⟩
    simp only [lex_Lex.l0]
    unfold Lex.lexL
    by_cases hr : r = []
    · subst hr
      rw [if_pos (by rw [ba_toList]), if_pos rfl]
      simp [lexRes]
    · rw [if_neg (by rw [ba_toList]; exact hr), if_neg hr]
      have hp : lex_piece.f ⟨r.toArray⟩ = some ((Lex.pieceP r).1, ⟨(Lex.pieceP r).2.1.toArray⟩, 0, (Lex.pieceP r).2.2) := by
        unfold lex_piece.f
        rw [ba_size r, if_pos ⟨by cases r with | nil => exact absurd rfl hr | cons _ _ => simp, by omega⟩]
      rw [hp]
      simp only [Option.bind_some]
      have hw : wrap64 ((s.size : Int) - ((⟨r.toArray⟩ : ByteArray).size : Int)) = ((s.size - r.length : Nat) : Int) := by
        rw [ba_size r]; unfold wrap64; omega
      by_cases hq : (Lex.pieceP r).2.2 = true
      · have hl := Lex.piece_len r hq
        rw [if_pos hq, if_pos hq, if_pos (by omega), ba_size (Lex.pieceP r).2.1, if_pos (by omega), if_pos (by rw [ba_size r]; omega)]
        have hx : (⟨r.toArray⟩ : ByteArray).extract (((Lex.pieceP r).2.1.length : Int)).toNat (⟨r.toArray⟩ : ByteArray).size = ⟨(r.drop (Lex.pieceP r).2.1.length).toArray⟩ := by
          apply Go.WideShapes.bytes_inj
          rw [Lib.extract_data, ba_size r, Int.toNat_natCast]
          rw [List.take_of_length_le (by simp)]
        have hsl := Lex.skipS_len (r.drop (Lex.pieceP r).2.1.length) false
        rw [List.length_drop] at hsl
        rw [hx, skip_ok _ _ k rfl (by rw [List.length_drop]; omega) (by rw [List.length_drop]; omega)]
        simp only [Option.bind_some]
        rw [hw, ih k _ _ (by omega) (by omega) (by omega) (by rw [List.length_append, List.length_singleton]; omega)]
        generalize Lex.lexL s.size d (Lex.skipS false (r.drop (Lex.pieceP r).2.1.length)) = q
        unfold lexRes
        by_cases hb : q.2.2 = true
        · rw [if_pos hb, if_pos hb]
          simp [tokT, hb]
        · rw [if_neg hb, if_neg hb]
      · rw [if_neg hq, if_neg hq, hw]
        simp [lexRes]

/-- lex.Lex. -/
theorem lex_ok (s : ByteArray) (hs : s.size ≤ 20000) (k : Nat) (hk : 50000 ≤ k) : lex_Lex.f k s = some (lexRes [] (Lex.lexA s.data.toList)) := by
  unfold lex_Lex.f
  rw [if_neg (by omega)]
  have hsz : s.data.toList.length = s.size := Lex.size_eq s
  have h1 := skip_ok s.size s.data.toList k hsz (by omega) (by omega)
  rw [ba_eq] at h1
  rw [h1]
  simp only [Option.bind_some]
  have hl := Lex.skipS_len s.data.toList false
  rw [hsz] at hl
  rw [loop_ok s hs (s.size + 1) k _ _ (by omega) (by omega) hl (by simp; omega)]
  unfold Lex.lexA
  rw [hsz]

theorem lex_long (s : ByteArray) (hs : 20000 < s.size) (k : Nat) : lex_Lex.f k s = some ([], 0, 7) := by
  unfold lex_Lex.f
  rw [if_pos (by omega)]

theorem shown_ok (k : Nat) (hk : 50000 ≤ k) : ashlarlaw15_shown.f k = some true := by
  unfold ashlarlaw15_shown.f
  rw [lex_ok _ (by decide) k hk, lex_ok _ (by decide) k hk]
  have e1 : lexRes [] (Lex.lexA (⟨#[40, 97, 32, 45, 49, 41, 32, 59, 32, 98]⟩ : ByteArray).data.toList) = ([⟨1, ⟨#[40]⟩, 0⟩, ⟨3, ⟨#[97]⟩, 1⟩, ⟨4, ⟨#[45, 49]⟩, 3⟩, ⟨2, ⟨#[41]⟩, 5⟩], 10, 0) := by
    show lexRes [] (Lex.lexA [40, 97, 32, 45, 49, 41, 32, 59, 32, 98]) = _
    rw [Lex.shownA]; rfl
  have e2 : lexRes [] (Lex.lexA (⟨#[97, 32, 48, 49]⟩ : ByteArray).data.toList) = ([], 2, 2) := by
    show lexRes [] (Lex.lexA [97, 32, 48, 49]) = _
    rw [Lex.shownB]; rfl
  rw [e1, e2]
  decide +kernel

theorem head_ok (a : ByteArray) : ∃ s : List UInt8, s.length ≤ 1000 ∧ 0 ≤ mn (a.size : Int) 1000 ∧ mn (a.size : Int) 1000 ≤ a.size ∧ a.extract 0 ((mn (a.size : Int) 1000) : Int).toNat = ⟨s.toArray⟩ := by
  have h : 0 ≤ mn (a.size : Int) 1000 ∧ mn (a.size : Int) 1000 ≤ a.size ∧ mn (a.size : Int) 1000 ≤ 1000 := by unfold mn; split <;> omega
  refine ⟨(a.extract 0 ((mn (a.size : Int) 1000) : Int).toNat).data.toList, ?_, h.1, h.2.1, (ba_eq _).symm⟩
  rw [Lex.size_eq, ByteArray.size_extract]; omega

theorem lexOf (l : List UInt8) (hl : l.length ≤ 20000) (k : Nat) (hk : 50000 ≤ k) : lex_Lex.f k ⟨l.toArray⟩ = some (lexRes [] (Lex.lexA l)) :=
  lex_ok ⟨l.toArray⟩ (by rw [ba_size l]; exact hl) k hk

theorem rd_tok (l : List (Int × List UInt8 × Nat)) (i : Nat) (h : i < l.length) : rd_T35 (l.map tokT) (i : Int) = tokT l[i] := by
  unfold rd_T35
  rw [Int.toNat_natCast]
  simp [List.getD, List.getElem?_map, List.getElem?_eq_getElem h]

theorem wrap_at (x n : Nat) (h : x ≤ 5000) (h2 : n ≤ 5000) : wrap64 (wrap64 ((x : Int) + (n : Int)) + 1) = ((n + 1 + x : Nat) : Int) := by
  unfold wrap64; omega
theorem wrap_next (i : Nat) (h : i ≤ 50000) : wrap64 ((i : Int) + 1) = ((i + 1 : Nat) : Int) := by
  unfold wrap64; omega
theorem wrap_back (i n : Nat) (h : i ≤ 50000) (h2 : n ≤ i) : wrap64 ((i : Int) - (n : Int)) = ((i - n : Nat) : Int) := by
  unfold wrap64; omega

theorem apart_loop (s : List UInt8) (hs : s.length ≤ 1000) (A B : List (Int × List UInt8 × Nat)) (hB : ∀ x ∈ B, x.2.2 ≤ 1000) (hl : A.length + B.length ≤ 5000) :
    ∀ (d i k : Nat), i + d = A.length + B.length → 2 * d + 2 < k → ashlarlaw15_LexApart.l0 k ⟨s.toArray⟩ true (A.map tokT) (B.map tokT) ((A ++ B.map (Lex.shiftT (s.length + 1))).map tokT) (i : Int) = some true := by
  intro d
  have hlen : (A ++ B.map (Lex.shiftT (s.length + 1))).length = A.length + B.length := by simp
  induction d with
  | zero =>
    intro i k hi hk
    obtain ⟨k, rfl⟩ : ∃ j, k = j + 1 := ⟨k - 1, by omega⟩
    simp only [ashlarlaw15_LexApart.l0]
    rw [List.length_map, hlen, if_neg (by omega)]
  | succ d ih =>
    intro i k hi hk
    obtain ⟨k, rfl⟩ : ∃ j, k = j + 2 := ⟨k - 2, by omega⟩
    simp only [ashlarlaw15_LexApart.l0]
    rw [List.length_map, hlen, if_pos (by omega), List.length_map]
    have hrd := rd_tok (A ++ B.map (Lex.shiftT (s.length + 1))) i (by omega)
    by_cases hA : i < A.length
    · rw [if_pos (by omega), if_pos (by omega)]
      have e : rd_T35 ((A ++ B.map (Lex.shiftT (s.length + 1))).map tokT) (i : Int) = rd_T35 (A.map tokT) (i : Int) := by
        rw [hrd, rd_tok A i hA, List.getElem_append_left hA]
      rw [e]
      have e2 : (!(((rd_T35 (A.map tokT) (i : Int)).f0) == ((rd_T35 (A.map tokT) (i : Int)).f0)) || (!((((rd_T35 (A.map tokT) (i : Int)).f1).toList) == (((rd_T35 (A.map tokT) (i : Int)).f1).toList)) || (!(((rd_T35 (A.map tokT) (i : Int)).f2) == ((rd_T35 (A.map tokT) (i : Int)).f2))))) = false := by simp
      rw [e2]
      simp only [ashlarlaw15_LexApart.j2]
      rw [if_neg (by decide), List.length_map, if_neg (by omega), wrap_next i (by omega)]
      exact ih (i + 1) k (by omega) (by omega)
    · rw [if_neg (by omega)]
      simp only [ashlarlaw15_LexApart.j2]
      rw [if_neg (by decide), List.length_map, if_pos (by omega), if_pos (by omega), List.length_map, hlen, if_pos (by omega), List.length_map, wrap_back i A.length (by omega) (by omega), if_pos (by omega), if_pos (by omega)]
      have hb : i - A.length < B.length := by omega
      have hx := hB _ (List.getElem_mem hb)
      have e : rd_T35 ((A ++ B.map (Lex.shiftT (s.length + 1))).map tokT) (i : Int) = tokT (Lex.shiftT (s.length + 1) (B[i - A.length]'hb)) := by
        rw [hrd, List.getElem_append_right (by omega), List.getElem_map]
      rw [e, rd_tok B (i - A.length) hb]
      generalize B[i - A.length]'hb = x at *
      have f0 : (tokT (Lex.shiftT (s.length + 1) x)).f0 = (tokT x).f0 := rfl
      have f1 : (tokT (Lex.shiftT (s.length + 1) x)).f1 = (tokT x).f1 := rfl
      have f2 : (tokT (Lex.shiftT (s.length + 1) x)).f2 = ((s.length + 1 + x.2.2 : Nat) : Int) := rfl
      have f3 : (tokT x).f2 = ((x.2.2 : Nat) : Int) := rfl
      rw [if_pos f0, if_pos (by rw [f1]), f2, f3, ba_size s, if_pos (by rw [wrap_at _ _ (by omega) (by omega)]), wrap_next i (by omega)]
      exact ih (i + 1) k (by omega) (by omega)

theorem LexApart : ashlarlaw15_LexApart.Pure := by
  intro a b ha hb
  obtain ⟨k, hk⟩ : ∃ k : Nat, 100000 < k := ⟨100001, by omega⟩
  refine ⟨k, ?_⟩
  obtain ⟨s, s1, s2, s3, s4⟩ := head_ok a
  obtain ⟨t, t1, t2, t3, t4⟩ := head_ok b
  unfold ashlarlaw15_LexApart.f
  rw [shown_ok _ (by omega)]
  simp only [Option.bind_some]
  rw [if_pos s2, if_pos s3, if_pos t2, if_pos t3, s4, t4]
  clear s2 s3 s4 t2 t3 t4 ha hb
  rw [lexOf s (by omega) k (by omega), lexOf t (by omega) k (by omega)]
  simp only [Option.bind_some]
  have hap : ((⟨s.toArray⟩ : ByteArray) ++ (⟨#[10]⟩ : ByteArray)) = ⟨(s ++ [10]).toArray⟩ := by
    apply Go.WideShapes.bytes_inj; simp
  have hap2 : ((⟨(s ++ [10]).toArray⟩ : ByteArray) ++ (⟨t.toArray⟩ : ByteArray)) = ⟨(s ++ 10 :: t).toArray⟩ := by
    apply Go.WideShapes.bytes_inj; simp
  rw [hap, hap2, ba_size s, ba_size t, ba_size (s ++ [10]), if_pos (by omega), if_pos (by rw [List.length_append, List.length_singleton]; omega)]
  rw [lexOf (s ++ 10 :: t) (by rw [List.length_append, List.length_cons]; omega) k (by omega), Lex.lexA_app]
  simp only [Option.bind_some]
  have hnA := Lex.lexL_nil s.length (s.length + 1) (Lex.skipS false s)
  have hgA := Lex.lexed_good s.length (s.length + 1) (Lex.skipS false s)
  have hgB := Lex.lexed_good t.length (t.length + 1) (Lex.skipS false t)
  have hpB := Lex.lexL_place t.length (t.length + 1) (Lex.skipS false t)
  have hE := Lex.lexL_end t.length (t.length + 1) (Lex.skipS false t)
  have hsA := Lex.skipS_len s false
  have hsB := Lex.skipS_len t false
  have hA : Lex.lexA s = Lex.lexL s.length (s.length + 1) (Lex.skipS false s) := rfl
  have hB : Lex.lexA t = Lex.lexL t.length (t.length + 1) (Lex.skipS false t) := rfl
  rw [← hA] at hgA hnA
  rw [← hB] at hgB hpB hE
  clear hA hB
  generalize Lex.lexA s = qA at *
  generalize Lex.lexA t = qB at *
  obtain ⟨A, e, ok⟩ := qA
  obtain ⟨B, e', ok'⟩ := qB
  cases ok with
  | false =>
    have r1 : lexRes [] (A, e, false) = ([], (e : Int), 2) := rfl
    have r2 : lexRes [] (Lex.glue s.length (A, e, false) (B, e', ok')) = ([], (e : Int), 2) := rfl
    rw [r1, r2]
    simp
  | true =>
    have r1 : lexRes [] (A, e, true) = (A.map tokT, (e : Int), 0) := rfl
    obtain ⟨-, -, gA3, gA4⟩ := hgA rfl
    simp only at gA3 gA4
    subst gA4
    cases ok' with
    | false =>
      have r2 : lexRes [] (B, e', false) = ([], (e' : Int), 2) := rfl
      have r3 : lexRes [] (Lex.glue s.length (A, s.length, true) (B, e', false)) = ([], ((s.length + 1 + e' : Nat) : Int), 2) := rfl
      rw [r1, r2, r3]
      have he : e' ≤ 1000 := Nat.le_trans hE t1
      have hw : wrap64 (wrap64 ((s.length : Int) + 1) + (e' : Int)) = ((s.length + 1 + e' : Nat) : Int) := by unfold wrap64; omega
      simp [hw]
    | true =>
      obtain ⟨-, -, gB3, gB4⟩ := hgB rfl
      simp only at gB3 gB4
      subst gB4
      have r2 : lexRes [] (B, t.length, true) = (B.map tokT, (t.length : Int), 0) := rfl
      have r3 : lexRes [] (Lex.glue s.length (A, s.length, true) (B, t.length, true)) = ((A ++ B.map (Lex.shiftT (s.length + 1))).map tokT, ((s.length + 1 + t.length : Nat) : Int), 0) := rfl
      rw [r1, r2, r3]
      have hw : wrap64 (wrap64 ((s.length : Int) + 1) + (t.length : Int)) = ((s.length + 1 + t.length : Nat) : Int) := by unfold wrap64; omega
      have hw2 : wrap64 ((A.length : Int) + (B.length : Int)) = ((A.length + B.length : Nat) : Int) := by unfold wrap64; omega
      have hlen : ((A ++ B.map (Lex.shiftT (s.length + 1))).map tokT).length = A.length + B.length := by simp
      simp only
      rw [if_pos trivial, if_pos trivial, if_pos trivial, hlen, List.length_map, List.length_map, hw2, if_pos rfl, hw]
      have hne : (((s.length + 1 + t.length : Nat) : Int) != ((s.length + 1 + t.length : Nat) : Int)) = false := bne_self_eq_false _
      rw [hne]
      obtain ⟨k, rfl⟩ : ∃ j, k = j + 1 := ⟨k - 1, by omega⟩
      simp only [ashlarlaw15_LexApart.j0]
      exact apart_loop s s1 A B (fun x hx => Nat.le_trans (hpB x hx) t1) (by omega) (A.length + B.length) 0 k (by omega) (by omega)

end Go.Proofs.YtnegkabafigfnaaDoor.Pure
