/- Pure: LexLong: a text of more than MaxText bytes is too long, whatever it is. -/
import Derived.Test.YtnegkabafigfnaaDoorPLexLongx1
import Derived.Test.YtnegkabafigfnaaDoorLexS
namespace Go.Proofs.YtnegkabafigfnaaDoor.Pure
open Go.RowKit Go.Proofs.YtnegkabafigfnaaDoor.Given Go.Proofs.YtnegkabafigfnaaDoor.PLexLong Go.Proofs.YtnegkabafigfnaaDoorW.PrintWords Go.Proofs.YtnegkabafigfnaaDoorW.PrintLast
set_option linter.unusedVariables false
set_option linter.unusedSimpArgs false

/-! ### what lex.Lex answers, as this text's functions tell it -/
theorem ba_eq (x : ByteArray) : (⟨x.data.toList.toArray⟩ : ByteArray) = x := by cases x; rfl
theorem ba_size (l : List UInt8) : (⟨l.toArray⟩ : ByteArray).size = l.length := Lex.mk_size l
theorem ba_toList (l : List UInt8) : (⟨l.toArray⟩ : ByteArray).toList = l := by rw [ByteArray.toList_eq]

theorem hasPrefix_semi (l : List UInt8) : strings_HasPrefix.f ⟨l.toArray⟩ ⟨#[59]⟩ = some (match l with | [] => false | c :: _ => c == 59) := by
  unfold strings_HasPrefix.f stringslite_HasPrefix.f
  cases l with
  | nil => rfl
  | cons c r =>
    rw [ba_size (c :: r)]
    have h1 : (⟨#[59]⟩ : ByteArray).size = 1 := rfl
    rw [h1]
    rw [if_pos (by rw [List.length_cons]; omega), if_pos (by decide), if_pos (by rw [List.length_cons]; omega)]
    simp only [Option.bind_some]
    rw [Lib.extract_toList]
    simp [ByteArray.toList_eq]

theorem trimLeft_sp (l : List UInt8) : strings_TrimLeft.f ⟨l.toArray⟩ ⟨#[9, 10, 13, 32]⟩ = some ⟨(l.dropWhile (Lex.spacesL.contains ·)).toArray⟩ := by
  unfold strings_TrimLeft.f
  rw [if_pos ⟨by decide, by decide⟩]
  rfl

theorem cut_nl (l : List UInt8) (h : l.length < 4294967281) : ∃ a b, strings_Cut.f ⟨l.toArray⟩ ⟨#[10]⟩ = some (a, ⟨((l.dropWhile (· != 10)).drop 1).toArray⟩, b) := by
  have e : strings_Cut.f ⟨l.toArray⟩ ⟨#[10]⟩ = some (⟨(Lib.cut l [10]).1.toArray⟩, ⟨(Lib.cut l [10]).2.1.toArray⟩, (Lib.cut l [10]).2.2) := by
    show (if (⟨l.toArray⟩ : ByteArray).size < 4294967281 then _ else none) = _
    rw [ba_size l, if_pos h]
  rw [e, Lex.cut_nl]
  exact ⟨_, _, rfl⟩

theorem skip_ok : ∀ (n : Nat) (l : List UInt8) (k : Nat), l.length = n → n < k → n < 4294967281 → lex_skip.f k ⟨l.toArray⟩ = some ⟨(Lex.skipS false l).toArray⟩ := by
  intro n
  induction n using Nat.strongRecOn with
  | ind n ih =>
  intro l k hl hk hn
  obtain ⟨k, rfl⟩ : ∃ m, k = m + 1 := ⟨k - 1, by omega⟩
  unfold lex_skip.f
  rw [Lex.skipS_drop]
  have hd : (l.dropWhile (Lex.spacesL.contains ·)).length ≤ l.length := (List.dropWhile_sublist _).length_le
  have hh : ∀ c r, l.dropWhile (Lex.spacesL.contains ·) = c :: r → Lex.spacesL.contains c = false := by
    intro c r h
    have := List.head?_dropWhile_not (Lex.spacesL.contains ·) l
    rw [h] at this
    simpa using this
  simp only [lex_skip.l0]
  rw [trimLeft_sp]
  simp only [Option.bind_some]
  rw [hasPrefix_semi]
  simp only [Option.bind_some]
  generalize l.dropWhile (Lex.spacesL.contains ·) = d at *
  cases d with
  | nil => rfl
  | cons c r =>
    have hc := hh c r rfl
    have e : Lex.skipS false (c :: r) = if Lex.spacesL.contains c then Lex.skipS false r else if c = 59 then Lex.skipS true r else c :: r := rfl
    rw [e, hc]
    simp only [Bool.false_eq_true, if_false]
    by_cases h59 : c = 59
    · subst h59
      rw [if_pos (show ((59 : UInt8) == 59) = true by decide)]
      obtain ⟨a, b, h⟩ := cut_nl (59 :: r) (by omega)
      rw [h]
      simp only [Option.bind_some]
      rw [Lex.skipS_rem, List.dropWhile_cons_of_pos (by decide)]
      have hlen : ((r.dropWhile (· != 10)).drop 1).length ≤ r.length := by
        rw [List.length_drop]
        have := (List.dropWhile_sublist (l := r) (· != 10)).length_le
        omega
      rw [List.length_cons] at hd
      exact ih _ (by omega) _ k rfl (by omega) (by omega)
    · rw [if_neg (by simpa using h59), if_neg h59]

def tokT (x : Int × List UInt8 × Nat) : S35 := ⟨x.1, ⟨x.2.1.toArray⟩, (x.2.2 : Int)⟩
def lexRes (acc : List S35) (r : List (Int × List UInt8 × Nat) × Nat × Bool) : List S35 × Int × Int := if r.2.2 = true then (acc ++ r.1.map tokT, (r.2.1 : Int), 0) else ([], (r.2.1 : Int), 2)

theorem loop_ok (s : ByteArray) (hs : s.size ≤ 20000) : ∀ (d k : Nat) (r : List UInt8) (acc : List S35), r.length < d → r.length + 20002 < k → r.length ≤ s.size → acc.length + r.length ≤ 20000 →
    lex_Lex.l0 k s acc ⟨r.toArray⟩ = some (lexRes acc (Lex.lexL s.size d r)) := by
  intro d
  induction d with
  | zero => intro k r acc h; omega
  | succ d ih =>
    intro k r acc h1 h2 h3 h4
    obtain ⟨k, rfl⟩ : ∃ m, k = m + 1 := ⟨k - 1, by omega⟩
    simp only [lex_Lex.l0]
    unfold Lex.lexL
    by_cases hr : r = []
    · subst hr
      rw [if_pos (by rw [ba_toList]), if_pos rfl]
      simp [lexRes]
    · rw [if_neg (by rw [ba_toList]; exact hr), if_neg hr]
      have hp : lex_piece.f ⟨r.toArray⟩ = some ((Lex.pieceP r).1, ⟨(Lex.pieceP r).2.1.toArray⟩, 0, (Lex.pieceP r).2.2) := by
        unfold lex_piece.f
        rw [ba_size r, if_pos ⟨by cases r with | nil => exact absurd rfl hr | cons _ _ => simp, by omega⟩]
      rw [hp]
      simp only [Option.bind_some]
      have hw : wrap64 ((s.size : Int) - ((⟨r.toArray⟩ : ByteArray).size : Int)) = ((s.size - r.length : Nat) : Int) := by
        rw [ba_size r]; unfold wrap64; omega
      by_cases hq : (Lex.pieceP r).2.2 = true
      · have hl := Lex.piece_len r hq
        rw [if_pos hq, if_pos hq, if_pos (by omega), ba_size (Lex.pieceP r).2.1, if_pos (by omega), if_pos (by rw [ba_size r]; omega)]
        have hx : (⟨r.toArray⟩ : ByteArray).extract (((Lex.pieceP r).2.1.length : Int)).toNat (⟨r.toArray⟩ : ByteArray).size = ⟨(r.drop (Lex.pieceP r).2.1.length).toArray⟩ := by
          apply Go.WideShapes.bytes_inj
          rw [Lib.extract_data, ba_size r, Int.toNat_natCast]
          rw [List.take_of_length_le (by simp)]
        have hsl := Lex.skipS_len (r.drop (Lex.pieceP r).2.1.length) false
        rw [List.length_drop] at hsl
        rw [hx, skip_ok _ _ k rfl (by rw [List.length_drop]; omega) (by rw [List.length_drop]; omega)]
        simp only [Option.bind_some]
        rw [hw, ih k _ _ (by omega) (by omega) (by omega) (by rw [List.length_append, List.length_singleton]; omega)]
        generalize Lex.lexL s.size d (Lex.skipS false (r.drop (Lex.pieceP r).2.1.length)) = q
        unfold lexRes
        by_cases hb : q.2.2 = true
        · rw [if_pos hb, if_pos hb]
          simp [tokT, hb]
        · rw [if_neg hb, if_neg hb]
      · rw [if_neg hq, if_neg hq, hw]
        simp [lexRes]

/-- lex.Lex. -/
theorem lex_ok (s : ByteArray) (hs : s.size ≤ 20000) (k : Nat) (hk : 50000 ≤ k) : lex_Lex.f k s = some (lexRes [] (Lex.lexA s.data.toList)) := by
  unfold lex_Lex.f
  rw [if_neg (by omega)]
  have hsz : s.data.toList.length = s.size := Lex.size_eq s
  have h1 := skip_ok s.size s.data.toList k hsz (by omega) (by omega)
  rw [ba_eq] at h1
  rw [h1]
  simp only [Option.bind_some]
  have hl := Lex.skipS_len s.data.toList false
  rw [hsz] at hl
  rw [loop_ok s hs (s.size + 1) k _ _ (by omega) (by omega) hl (by simp; omega)]
  unfold Lex.lexA
  rw [hsz]

theorem lex_long (s : ByteArray) (hs : 20000 < s.size) (k : Nat) : lex_Lex.f k s = some ([], 0, 7) := by
  unfold lex_Lex.f
  rw [if_pos (by omega)]

theorem shown_ok (k : Nat) (hk : 50000 ≤ k) : ashlarlaw15_shown.f k = some true := by
  unfold ashlarlaw15_shown.f
  rw [lex_ok _ (by decide) k hk, lex_ok _ (by decide) k hk]
  have e1 : lexRes [] (Lex.lexA (⟨#[40, 97, 32, 45, 49, 41, 32, 59, 32, 98]⟩ : ByteArray).data.toList) = ([⟨1, ⟨#[40]⟩, 0⟩, ⟨3, ⟨#[97]⟩, 1⟩, ⟨4, ⟨#[45, 49]⟩, 3⟩, ⟨2, ⟨#[41]⟩, 5⟩], 10, 0) := by
    show lexRes [] (Lex.lexA [40, 97, 32, 45, 49, 41, 32, 59, 32, 98]) = _
    rw [Lex.shownA]; rfl
  have e2 : lexRes [] (Lex.lexA (⟨#[97, 32, 48, 49]⟩ : ByteArray).data.toList) = ([], 2, 2) := by
    show lexRes [] (Lex.lexA [97, 32, 48, 49]) = _
    rw [Lex.shownB]; rfl
  rw [e1, e2]
  decide +kernel

theorem spaces_skip (n : Nat) : Lex.skipS false (List.replicate n 32) = [] := by
  induction n with
  | zero => rfl
  | succ n ih =>
    rw [List.replicate_succ]
    have e : Lex.skipS false (32 :: List.replicate n 32) = if Lex.spacesL.contains 32 then Lex.skipS false (List.replicate n 32) else if (32 : UInt8) = 59 then Lex.skipS true (List.replicate n 32) else 32 :: List.replicate n 32 := rfl
    rw [e, if_pos (by decide), ih]

theorem set_fill (i d : Nat) (hd : 0 < d) : (List.replicate i (32 : Int) ++ List.replicate d 0).set i 32 = List.replicate (i + 1) 32 ++ List.replicate (d - 1) 0 := by
  obtain ⟨d, rfl⟩ : ∃ m, d = m + 1 := ⟨d - 1, by omega⟩
  rw [List.set_append_right _ _ (by simp)]
  simp only [List.length_replicate, Nat.sub_self, List.replicate_succ, List.set_cons_zero, Nat.add_sub_cancel]
  rw [show List.replicate i (32 : Int) ++ 32 :: List.replicate d 0 = (List.replicate i 32 ++ [32]) ++ List.replicate d 0 by simp]
  congr 1
  rw [← List.replicate_succ', List.replicate_succ]

theorem fill_data (n : Nat) : (strOfNums (List.replicate n 32)).data.toList = List.replicate n 32 := by
  rw [strOfNums_data, List.map_replicate]; rfl

theorem fill_lex (n : Nat) : Lex.lexA (List.replicate n 32) = ([], n, true) := by
  unfold Lex.lexA
  rw [spaces_skip, List.length_replicate]
  rfl

theorem fill_ok (c : Int) (h0 : 0 ≤ c) (h1 : c < 256) : ∀ (d i k : Nat) (x : Int), x = i → i + d = 20000 → 100000 + d < k →
    ashlarlaw15_LexLong.l0 k c true (List.replicate i 32 ++ List.replicate d 0) x = some true := by
  intro d
  induction d with
  | zero =>
    intro i k x hx hi hk
    obtain ⟨k, rfl⟩ : ∃ m, k = m + 1 := ⟨k - 1, by omega⟩
    obtain rfl : i = 20000 := by omega
    simp only [ashlarlaw15_LexLong.l0, List.replicate_zero, List.append_nil]
    generalize hb : List.replicate 20000 (32 : Int) = xs
    have hlen : xs.length = 20000 := by rw [← hb, List.length_replicate]
    rw [if_neg (by omega)]
    have hs : (strOfNums xs).data.toList = List.replicate 20000 32 := by
      rw [← hb]; exact fill_data _
    have hsz : (strOfNums xs).size = 20000 := by rw [strOfNums_size, hlen]
    have hsz2 : (strOfNums (xs ++ [c])).size = 20001 := by
      rw [strOfNums_size, List.length_append, hlen]; rfl
    rw [lex_ok _ (by omega) k (by omega), lex_long _ (by omega) k]
    simp only [Option.bind_some]
    rw [if_pos (by omega)]
    have hA : Lex.lexA (strOfNums xs).data.toList = ([], 20000, true) := by
      rw [hs]; exact fill_lex _
    rw [hA]
    rfl
  | succ d ih =>
    intro i k x hx hi hk
    obtain ⟨k, rfl⟩ : ∃ m, k = m + 1 := ⟨k - 1, by omega⟩
    simp only [ashlarlaw15_LexLong.l0]
    rw [if_pos (by rw [List.length_append, List.length_replicate, List.length_replicate]; omega), if_pos (by omega), show x.toNat = i by omega, set_fill i (d + 1) (by omega)]
    have hw : wrap64 (x + 1) = x + 1 := by unfold wrap64; omega
    rw [hw]
    exact ih (i + 1) k (x + 1) (by omega) (by omega) (by omega)

theorem fill_all (c : Int) (h0 : 0 ≤ c) (h1 : c < 256) (k : Nat) (hk : 150000 < k) : ashlarlaw15_LexLong.l0 k c true (List.replicate 20000 0) 0 = some true := by
  have h := fill_ok c h0 h1 20000 0 k 0 rfl (by omega) (by omega)
  rw [List.replicate_zero, List.nil_append] at h
  exact h

theorem LexLong : ashlarlaw15_LexLong.Pure := by
  intro c hc
  have hc2 : 0 ≤ c ∧ c < 256 := by
    simp [Lit.wf, IntKind.min, IntKind.max, IntKind.signed, IntKind.bits] at hc; omega
  obtain ⟨k, hk⟩ : ∃ k : Nat, 150000 < k := ⟨150001, by omega⟩
  refine ⟨k, ?_⟩
  unfold ashlarlaw15_LexLong.f
  rw [shown_ok _ (by omega)]
  have h2 : (20000 : Int) ≤ 281474976710656 := by omega
  have h := fill_all c hc2.1 hc2.2 k hk
  simp only [Option.bind_some]
  first | (rw [if_pos h2]; exact h) | (rw [if_pos (by omega)]; exact h)

end Go.Proofs.YtnegkabafigfnaaDoor.Pure
