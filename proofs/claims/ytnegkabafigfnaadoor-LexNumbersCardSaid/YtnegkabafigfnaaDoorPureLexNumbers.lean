/- Pure: LexNumbers: a number is written in one way. -/
import Derived.Test.YtnegkabafigfnaaDoorPLexNumbersx3
import Derived.Test.YtnegkabafigfnaaDoorLexN
namespace Go.Proofs.YtnegkabafigfnaaDoor.Pure
open Go.RowKit Go.Proofs.YtnegkabafigfnaaDoor.Given Go.Proofs.YtnegkabafigfnaaDoor.PLexNumbers Go.Proofs.YtnegkabafigfnaaDoorW.PrintWords Go.Proofs.YtnegkabafigfnaaDoorW.PrintLast
set_option linter.unusedVariables false
set_option linter.unusedSimpArgs false

/-! ### what lex.Lex answers, as this text's functions tell it -/
theorem ba_eq (x : ByteArray) : (⟨x.data.toList.toArray⟩ : ByteArray) = x := by cases x; rfl
theorem ba_size (l : List UInt8) : (⟨l.toArray⟩ : ByteArray).size = l.length := Lex.mk_size l
theorem ba_toList (l : List UInt8) : (⟨l.toArray⟩ : ByteArray).toList = l := by rw [ByteArray.toList_eq]

theorem hasPrefix_semi (l : List UInt8) : strings_HasPrefix.f ⟨l.toArray⟩ ⟨#[59]⟩ = some (match l with | [] => false | c :: _ => c == 59) := by
  unfold strings_HasPrefix.f stringslite_HasPrefix.f
  cases l with
  | nil => rfl
  | cons c r =>
    rw [ba_size (c :: r)]
    have h1 : (⟨#[59]⟩ : ByteArray).size = 1 := rfl
    rw [h1]
    rw [if_pos (by rw [List.length_cons]; omega), if_pos (by decide), if_pos (by rw [List.length_cons]; omega)]
    simp only [Option.bind_some]
    rw [Lib.extract_toList]
    simp [ByteArray.toList_eq]

theorem trimLeft_sp (l : List UInt8) : strings_TrimLeft.f ⟨l.toArray⟩ ⟨#[9, 10, 13, 32]⟩ = some ⟨(l.dropWhile (Lex.spacesL.contains ·)).toArray⟩ := by
  unfold strings_TrimLeft.f
  rw [if_pos ⟨by decide, by decide⟩]
  rfl

theorem cut_nl (l : List UInt8) (h : l.length < 4294967281) : ∃ a b, strings_Cut.f ⟨l.toArray⟩ ⟨#[10]⟩ = some (a, ⟨((l.dropWhile (· != 10)).drop 1).toArray⟩, b) := by
  have e : strings_Cut.f ⟨l.toArray⟩ ⟨#[10]⟩ = some (⟨(Lib.cut l [10]).1.toArray⟩, ⟨(Lib.cut l [10]).2.1.toArray⟩, (Lib.cut l [10]).2.2) := by
    show (if (⟨l.toArray⟩ : ByteArray).size < 4294967281 then _ else none) = _
    rw [ba_size l, if_pos h]
  rw [e, Lex.cut_nl]
  exact ⟨_, _, rfl⟩

theorem skip_ok : ∀ (n : Nat) (l : List UInt8) (k : Nat), l.length = n → n < k → n < 4294967281 → lex_skip.f k ⟨l.toArray⟩ = some ⟨(Lex.skipS false l).toArray⟩ := by
  intro n
  induction n using Nat.strongRecOn with
  | ind n ih =>
  intro l k hl hk hn
  obtain ⟨k, rfl⟩ : ∃ m, k = m + 1 := ⟨k - 1, by omega⟩
  unfold lex_skip.f
  rw [Lex.skipS_drop]
  have hd : (l.dropWhile (Lex.spacesL.contains ·)).length ≤ l.length := (List.dropWhile_sublist _).length_le
  have hh : ∀ c r, l.dropWhile (Lex.spacesL.contains ·) = c :: r → Lex.spacesL.contains c = false := by
    intro c r h
    have := List.head?_dropWhile_not (Lex.spacesL.contains ·) l
    rw [h] at this
    simpa using this
  simp only [lex_skip.l0]
  rw [trimLeft_sp]
  simp only [Option.bind_some]
  rw [hasPrefix_semi]
  simp only [Option.bind_some]
  generalize l.dropWhile (Lex.spacesL.contains ·) = d at *
  cases d with
  | nil => rfl
  | cons c r =>
    have hc := hh c r rfl
    have e : Lex.skipS false (c :: r) = if Lex.spacesL.contains c then Lex.skipS false r else if c = 59 then Lex.skipS true r else c :: r := rfl
    rw [e, hc]
    simp only [Bool.false_eq_true, if_false]
    by_cases h59 : c = 59
    · subst h59
      rw [if_pos (show ((59 : UInt8) == 59) = true by decide)]
      obtain ⟨a, b, h⟩ := cut_nl (59 :: r) (by omega)
      rw [h]
      simp only [Option.bind_some]
      rw [Lex.skipS_rem, List.dropWhile_cons_of_pos (by decide)]
      have hlen : ((r.dropWhile (· != 10)).drop 1).length ≤ r.length := by
        rw [List.length_drop]
        have := (List.dropWhile_sublist (l := r) (· != 10)).length_le
        omega
      rw [List.length_cons] at hd
      exact ih _ (by omega) _ k rfl (by omega) (by omega)
    · rw [if_neg (by simpa using h59), if_neg h59]

def tokT (x : Int × List UInt8 × Nat) : S35 := ⟨x.1, ⟨x.2.1.toArray⟩, (x.2.2 : Int)⟩
def lexRes (acc : List S35) (r : List (Int × List UInt8 × Nat) × Nat × Bool) : List S35 × Int × Int := if r.2.2 = true then (acc ++ r.1.map tokT, (r.2.1 : Int), 0) else ([], (r.2.1 : Int), 2)

theorem loop_ok (s : ByteArray) (hs : s.size ≤ 20000) : ∀ (d k : Nat) (r : List UInt8) (acc : List S35), r.length < d → r.length + 20002 < k → r.length ≤ s.size → acc.length + r.length ≤ 20000 →
    lex_Lex.l0 k s acc ⟨r.toArray⟩ = some (lexRes acc (Lex.lexL s.size d r)) := by
  intro d
  induction d with
  | zero => intro k r acc h; omega
  | succ d ih =>
    intro k r acc h1 h2 h3 h4
    obtain ⟨k, rfl⟩ : ∃ m, k = m + 1 := ⟨k - 1, by omega⟩
    simp only [lex_Lex.l0]
    unfold Lex.lexL
    by_cases hr : r = []
    · subst hr
      rw [if_pos (by rw [ba_toList]), if_pos rfl]
      simp [lexRes]
    · rw [if_neg (by rw [ba_toList]; exact hr), if_neg hr]
      have hp : lex_piece.f ⟨r.toArray⟩ = some ((Lex.pieceP r).1, ⟨(Lex.pieceP r).2.1.toArray⟩, 0, (Lex.pieceP r).2.2) := by
        unfold lex_piece.f
        rw [ba_size r, if_pos ⟨by cases r with | nil => exact absurd rfl hr | cons _ _ => simp, by omega⟩]
      rw [hp]
      simp only [Option.bind_some]
      have hw : wrap64 ((s.size : Int) - ((⟨r.toArray⟩ : ByteArray).size : Int)) = ((s.size - r.length : Nat) : Int) := by
        rw [ba_size r]; unfold wrap64; omega
      by_cases hq : (Lex.pieceP r).2.2 = true
      · have hl := Lex.piece_len r hq
        rw [if_pos hq, if_pos hq, if_pos (by omega), ba_size (Lex.pieceP r).2.1, if_pos (by omega), if_pos (by rw [ba_size r]; omega)]
        have hx : (⟨r.toArray⟩ : ByteArray).extract (((Lex.pieceP r).2.1.length : Int)).toNat (⟨r.toArray⟩ : ByteArray).size = ⟨(r.drop (Lex.pieceP r).2.1.length).toArray⟩ := by
          apply Go.WideShapes.bytes_inj
          rw [Lib.extract_data, ba_size r, Int.toNat_natCast]
          rw [List.take_of_length_le (by simp)]
        have hsl := Lex.skipS_len (r.drop (Lex.pieceP r).2.1.length) false
        rw [List.length_drop] at hsl
        rw [hx, skip_ok _ _ k rfl (by rw [List.length_drop]; omega) (by rw [List.length_drop]; omega)]
        simp only [Option.bind_some]
        rw [hw, ih k _ _ (by omega) (by omega) (by omega) (by rw [List.length_append, List.length_singleton]; omega)]
        generalize Lex.lexL s.size d (Lex.skipS false (r.drop (Lex.pieceP r).2.1.length)) = q
        unfold lexRes
        by_cases hb : q.2.2 = true
        · rw [if_pos hb, if_pos hb]
          simp [tokT, hb]
        · rw [if_neg hb, if_neg hb]
      · rw [if_neg hq, if_neg hq, hw]
        simp [lexRes]

/-- lex.Lex. -/
theorem lex_ok (s : ByteArray) (hs : s.size ≤ 20000) (k : Nat) (hk : 50000 ≤ k) : lex_Lex.f k s = some (lexRes [] (Lex.lexA s.data.toList)) := by
  unfold lex_Lex.f
  rw [if_neg (by omega)]
  have hsz : s.data.toList.length = s.size := Lex.size_eq s
  have h1 := skip_ok s.size s.data.toList k hsz (by omega) (by omega)
  rw [ba_eq] at h1
  rw [h1]
  simp only [Option.bind_some]
  have hl := Lex.skipS_len s.data.toList false
  rw [hsz] at hl
  rw [loop_ok s hs (s.size + 1) k _ _ (by omega) (by omega) hl (by simp; omega)]
  unfold Lex.lexA
  rw [hsz]

theorem lex_long (s : ByteArray) (hs : 20000 < s.size) (k : Nat) : lex_Lex.f k s = some ([], 0, 7) := by
  unfold lex_Lex.f
  rw [if_pos (by omega)]

theorem shown_ok (k : Nat) (hk : 50000 ≤ k) : ashlarlaw15_shown.f k = some true := by
  unfold ashlarlaw15_shown.f
  rw [lex_ok _ (by decide) k hk, lex_ok _ (by decide) k hk]
  have e1 : lexRes [] (Lex.lexA (⟨#[40, 97, 32, 45, 49, 41, 32, 59, 32, 98]⟩ : ByteArray).data.toList) = ([⟨1, ⟨#[40]⟩, 0⟩, ⟨3, ⟨#[97]⟩, 1⟩, ⟨4, ⟨#[45, 49]⟩, 3⟩, ⟨2, ⟨#[41]⟩, 5⟩], 10, 0) := by
    show lexRes [] (Lex.lexA [40, 97, 32, 45, 49, 41, 32, 59, 32, 98]) = _
    rw [Lex.shownA]; rfl
  have e2 : lexRes [] (Lex.lexA (⟨#[97, 32, 48, 49]⟩ : ByteArray).data.toList) = ([], 2, 2) := by
    show lexRes [] (Lex.lexA [97, 32, 48, 49]) = _
    rw [Lex.shownB]; rfl
  rw [e1, e2]
  decide +kernel

theorem ba_app (a b : List UInt8) : ((⟨a.toArray⟩ : ByteArray) ++ (⟨b.toArray⟩ : ByteArray)) = ⟨(a ++ b).toArray⟩ := by
  apply Go.WideShapes.bytes_inj
  simp
theorem one_num (x : Int) : strOfNums [x] = ⟨[UInt8.ofNat x.toNat].toArray⟩ := rfl

theorem digits_ok : ∀ (m : Nat) (n : Int) (k : Nat), n.natAbs ≤ m → m < k → -9223372036854775808 ≤ n → n ≤ 9223372036854775807 → ashlarlaw15_digits.f k n = some ⟨(Lib.itoa n).toArray⟩ := by
  intro m
  induction m using Nat.strongRecOn with
  | ind m ih =>
  intro n k hm hk h0 h1
  obtain ⟨k, rfl⟩ : ∃ j, k = j + 1 := ⟨k - 1, by omega⟩
  simp only [ashlarlaw15_digits.f]
  by_cases hn : n < 0
  · rw [if_pos hn]
    by_cases hs : n > -10
    · rw [if_pos hs]
      simp only [Option.bind_some]
      have hx : wrap64 (48 - n) % 256 = 48 - n := by unfold wrap64; omega
      rw [hx, one_num, if_pos (by rw [ba_size]; simp)]
      rw [show (⟨#[45]⟩ : ByteArray) = ⟨[(45 : UInt8)].toArray⟩ from rfl, ba_app]
      congr 3
      unfold Lib.itoa
      rw [if_pos hn, Lib.decDigits_one (by omega)]
      rw [show (48 - n).toNat = 48 + n.natAbs by omega]; rfl
    · rw [if_neg hs]
      have hq : wrap64 (Int.tdiv n 10) = -((n.natAbs / 10 : Nat) : Int) := by
        have : Int.tdiv n 10 = -((n.natAbs / 10 : Nat) : Int) := by
          rw [show n = -((n.natAbs : Nat) : Int) by omega, Int.neg_tdiv, Int.natAbs_neg, Int.natAbs_natCast]; rfl
        rw [this]; unfold wrap64; omega
      rw [hq, ih (n.natAbs / 10) (by omega) _ k (by omega) (by omega) (by omega) (by omega)]
      simp only [Option.bind_some]
      have hr : wrap64 (48 - Int.tmod n 10) % 256 = 48 + ((n.natAbs % 10 : Nat) : Int) := by
        have : Int.tmod n 10 = -((n.natAbs % 10 : Nat) : Int) := by
          rw [show n = -((n.natAbs : Nat) : Int) by omega, Int.neg_tmod, Int.natAbs_neg, Int.natAbs_natCast]; rfl
        rw [this]; unfold wrap64; omega
      rw [hr, one_num, if_pos (by rw [ba_size, ba_size]; have := Lib.itoa_length_le (-((n.natAbs / 10 : Nat) : Int)) (by omega) (by omega); simp only [List.length_cons, List.length_nil]; omega), ba_app]
      congr 3
      rw [Lib.itoa_neg _ (by omega)]
      unfold Lib.itoa
      rw [if_pos hn]
      conv => rhs; rw [Lib.decDigits, dif_neg (by omega)]
      rw [List.cons_append, show (48 + ((n.natAbs % 10 : Nat) : Int)).toNat = 48 + n.natAbs % 10 by omega]
  · rw [if_neg hn]
    by_cases hs : n < 10
    · rw [if_pos hs]
      have hx : wrap64 (48 + n) % 256 = 48 + n := by unfold wrap64; omega
      rw [hx, one_num]
      congr 2
      unfold Lib.itoa
      rw [if_neg hn, Lib.decDigits_one (by omega)]
      rw [show (48 + n).toNat = 48 + n.toNat by omega]
    · rw [if_neg hs]
      have hq : wrap64 (Int.tdiv n 10) = ((n.toNat / 10 : Nat) : Int) := by
        have : Int.tdiv n 10 = ((n.toNat / 10 : Nat) : Int) := by
          rw [Int.tdiv_eq_ediv_of_nonneg (by omega)]; omega
        rw [this]; unfold wrap64; omega
      rw [hq, ih (n.toNat / 10) (by omega) _ k (by omega) (by omega) (by omega) (by omega)]
      simp only [Option.bind_some]
      have hr : wrap64 (48 + Int.tmod n 10) % 256 = 48 + ((n.toNat % 10 : Nat) : Int) := by
        have : Int.tmod n 10 = ((n.toNat % 10 : Nat) : Int) := by
          rw [Int.tmod_eq_emod_of_nonneg (by omega)]; omega
        rw [this]; unfold wrap64; omega
      rw [hr, one_num, if_pos (by rw [ba_size, ba_size]; have := Lib.itoa_length_le ((n.toNat / 10 : Nat) : Int) (by omega) (by omega); simp only [List.length_cons, List.length_nil]; omega), ba_app]
      congr 3
      rw [Lib.itoa_nonneg]
      unfold Lib.itoa
      rw [if_neg hn]
      conv => rhs; rw [Lib.decDigits, dif_neg (by omega)]
      rw [show (48 + ((n.toNat % 10 : Nat) : Int)).toNat = 48 + n.toNat % 10 by omega]

theorem bt_here (p r : List UInt8) (c : UInt8) : bt ⟨(p ++ c :: r).toArray⟩ (p.length : Int) = (c.toNat : Int) := by
  have h : (p.length : Int).toNat < (⟨(p ++ c :: r).toArray⟩ : ByteArray).size := by rw [ba_size (p ++ c :: r)]; simp
  rw [← bt_at _ _ h]
  have e : (⟨(p ++ c :: r).toArray⟩ : ByteArray)[(p.length : Int).toNat]'h = c := by
    show (p ++ c :: r).toArray[(p.length : Int).toNat]'_ = c
    simp
  rw [e]

theorem int_pos : ∀ (r p : List UInt8) (a k : Nat), r.length < k → (∀ c ∈ r, Lex.isD c) → Lex.valD a r ≤ 9223372036854775807 → p.length + r.length < 1000 →
    ashlarref15_Int.l0 k ⟨(p ++ r).toArray⟩ (a : Int) false (p.length : Int) = some (Lex.valD a r : Int)
  | [], p, a, k, hk, _, _, _ => by
    obtain ⟨k, rfl⟩ : ∃ j, k = j + 1 := ⟨k - 1, by omega⟩
    simp only [ashlarref15_Int.l0]
    rw [if_neg (by rw [ba_size]; simp)]; rfl
  | c :: r, p, a, k, hk, hd, hv, hl => by
    obtain ⟨k, rfl⟩ : ∃ j, k = j + 1 := ⟨k - 1, by omega⟩
    have hc : 48 ≤ c.toNat ∧ c.toNat ≤ 57 := hd c (List.mem_cons_self ..)
    have hge := Lex.valD_ge r (a * 10 + (c.toNat - 48))
    unfold Lex.valD at hv ⊢
    rw [List.length_cons] at hl hk
    simp only [ashlarref15_Int.l0]
    rw [if_pos (by rw [ba_size]; simp; omega), if_pos (by omega), bt_here, if_neg (by omega), if_neg (by decide)]
    have h := int_pos r (p ++ [c]) (a * 10 + (c.toNat - 48)) k (by omega) (fun x hx => hd x (List.mem_cons_of_mem _ hx)) hv (by simp; omega)
    rw [List.append_assoc, List.singleton_append, List.length_append, List.length_singleton] at h
    rw [← h]
    congr 1
    · unfold wrap64; omega
    · unfold wrap64; omega

theorem int_neg : ∀ (r p : List UInt8) (a k : Nat), r.length < k → (∀ c ∈ r, Lex.isD c) → Lex.valD a r ≤ 9223372036854775808 → p.length + r.length < 1000 →
    ashlarref15_Int.l0 k ⟨(p ++ r).toArray⟩ (-(a : Int)) true (p.length : Int) = some (-(Lex.valD a r : Int))
  | [], p, a, k, hk, _, _, _ => by
    obtain ⟨k, rfl⟩ : ∃ j, k = j + 1 := ⟨k - 1, by omega⟩
    simp only [ashlarref15_Int.l0]
    rw [if_neg (by rw [ba_size]; simp)]; rfl
  | c :: r, p, a, k, hk, hd, hv, hl => by
    obtain ⟨k, rfl⟩ : ∃ j, k = j + 1 := ⟨k - 1, by omega⟩
    have hc : 48 ≤ c.toNat ∧ c.toNat ≤ 57 := hd c (List.mem_cons_self ..)
    have hge := Lex.valD_ge r (a * 10 + (c.toNat - 48))
    unfold Lex.valD at hv ⊢
    rw [List.length_cons] at hl hk
    simp only [ashlarref15_Int.l0]
    rw [if_pos (by rw [ba_size]; simp; omega), if_pos (by omega), bt_here, if_neg (by omega), if_pos (by decide)]
    have h := int_neg r (p ++ [c]) (a * 10 + (c.toNat - 48)) k (by omega) (fun x hx => hd x (List.mem_cons_of_mem _ hx)) hv (by simp; omega)
    rw [List.append_assoc, List.singleton_append, List.length_append, List.length_singleton] at h
    rw [← h]
    congr 1
    · unfold wrap64; omega
    · unfold wrap64; omega

theorem int_ok (n : Int) (h0 : -9223372036854775808 ≤ n) (h1 : n ≤ 9223372036854775807) (k : Nat) (hk : 1000 < k) : ashlarref15_Int.f k ⟨(Lib.itoa n).toArray⟩ = some n := by
  have hlen := Lib.itoa_length_le n h0 h1
  unfold ashlarref15_Int.f
  rw [ba_size]
  obtain ⟨c, t, hi, hc⟩ := Lex.itoa_head n
  rw [if_pos (by rw [hi]; simp)]
  have hb := bt_here [] t c
  rw [List.nil_append, ← hi] at hb
  rw [show ((([] : List UInt8).length : Nat) : Int) = 0 from rfl] at hb
  rw [hb]
  have hall := Lex.dec_digits
  unfold Lib.itoa at hi hlen ⊢
  by_cases hn : n < 0
  · rw [if_pos hn] at hi hlen ⊢
    obtain ⟨rfl, rfl⟩ := List.cons.inj hi
    obtain ⟨k, rfl⟩ : ∃ j, k = j + 1 := ⟨k - 1, by omega⟩
    rw [List.length_cons] at hlen
    simp only [ashlarref15_Int.l0]
    have hb2 := bt_here [] (Lib.decDigits n.natAbs) 45
    rw [List.nil_append] at hb2
    rw [show ((([] : List UInt8).length : Nat) : Int) = 0 from rfl] at hb2
    rw [if_pos (by rw [ba_size]; simp), if_pos (by decide), hb2, if_pos (by decide)]
    have h := int_neg (Lib.decDigits n.natAbs) [45] 0 k (by omega) (hall _) (by rw [Lex.dec_val]; omega) (by simp; omega)
    rw [Lex.dec_val] at h
    have e1 : wrap64 (0 + 1) = 1 := by unfold wrap64; omega
    rw [e1]
    have e2 : ((45 : UInt8).toNat : Int) == 45 := by decide
    rw [show (((45 : UInt8).toNat : Int) == 45) = true from e2]
    have e3 : -(n.natAbs : Int) = n := by omega
    rw [e3] at h
    exact h
  · rw [if_neg hn] at hi hlen ⊢
    have hcd : Lex.isD c := hall n.toNat c (by rw [hi]; exact List.mem_cons_self ..)
    have e2 : ((c.toNat : Int) == 45) = false := by
      unfold Lex.isD at hcd; rw [beq_eq_false_iff_ne]; omega
    rw [e2]
    have h := int_pos (Lib.decDigits n.toNat) [] 0 k (by omega) (hall _) (by rw [Lex.dec_val]; omega) (by simp; omega)
    rw [Lex.dec_val] at h
    have e3 : (n.toNat : Int) = n := by omega
    rw [e3, List.nil_append] at h
    exact h

theorem lexA_one (n : Int) (h0 : -9223372036854775808 ≤ n) (h1 : n ≤ 9223372036854775807) : Lex.lexA (Lib.itoa n) = ([(4, Lib.itoa n, 0)], (Lib.itoa n).length, true) := by
  obtain ⟨c, t, hi, hc⟩ := Lex.itoa_head n
  obtain ⟨-, -, -, hs, h59⟩ := Lex.letters_no hc
  have hp := Lex.piece_itoa n h0 h1 [] (by intro c t h; cases h)
  rw [List.append_nil] at hp
  unfold Lex.lexA
  have hk : Lex.skipS false (Lib.itoa n) = Lib.itoa n := by rw [hi]; exact Lex.skip_none t hs h59
  have hne : Lib.itoa n ≠ [] := by rw [hi]; simp
  rw [hk]
  generalize Lib.itoa n = x at *
  unfold Lex.lexL
  rw [if_neg hne, hp, if_pos (show Lex.endOK [] = true from rfl), List.drop_length]
  obtain ⟨m, hm⟩ : ∃ m, x.length = m + 1 := ⟨x.length - 1, by cases x with | nil => exact absurd rfl hne | cons _ _ => simp⟩
  rw [hm]
  simp [Lex.skipS, Lex.lexL]

theorem lexA_bad (x : List UInt8) (c : UInt8) (t : List UInt8) (hx : x = c :: t) (hs : Lex.spacesL.contains c = false) (h59 : c ≠ 59) (hp : (Lex.pieceP x).2.2 = false) : Lex.lexA x = ([], 0, false) := by
  subst hx
  unfold Lex.lexA
  rw [Lex.skip_none t hs h59]
  unfold Lex.lexL
  rw [if_neg (by simp), if_neg (by rw [hp]; decide), Nat.sub_self]

theorem LexNumbers : ashlarlaw15_LexNumbers.Pure := by
  intro n hn
  have hn2 : -9223372036854775808 ≤ n ∧ n ≤ 9223372036854775807 := by
    simp [Lit.wf, IntKind.min, IntKind.max, IntKind.signed, IntKind.bits] at hn; omega
  obtain ⟨h0, h1⟩ := hn2
  obtain ⟨k, hk⟩ : ∃ k : Nat, n.natAbs + 100000 < k := ⟨n.natAbs + 100001, by omega⟩
  refine ⟨k, ?_⟩
  obtain ⟨k, rfl⟩ : ∃ j, k = j + 1 := ⟨k - 1, by omega⟩
  have hlen := Lib.itoa_length_le n h0 h1
  obtain ⟨c, t, hi, hc⟩ := Lex.itoa_head n
  obtain ⟨hL, -, -, hs, h59⟩ := Lex.letters_no hc
  unfold ashlarlaw15_LexNumbers.f
  rw [shown_ok _ (by omega), digits_ok n.natAbs n (k + 1) (by omega) (by omega) h0 h1]
  simp only [Option.bind_some]
  rw [lex_ok _ (by rw [ba_size]; omega) _ (by omega)]
  have e1 : lexRes [] (Lex.lexA (⟨(Lib.itoa n).toArray⟩ : ByteArray).data.toList) = ([⟨4, ⟨(Lib.itoa n).toArray⟩, 0⟩], ((Lib.itoa n).length : Int), 0) := by
    show lexRes [] (Lex.lexA (Lib.itoa n)) = _
    rw [lexA_one n h0 h1]; rfl
  rw [e1]
  simp only [Option.bind_some]
  have e0 : (([(⟨4, ⟨(Lib.itoa n).toArray⟩, 0⟩ : S35)].length : Nat) : Int) = 1 := rfl
  rw [e0, if_pos rfl, if_pos (show (0 : Int) < 1 by decide)]
  have e2 : rd_T35 [(⟨4, ⟨(Lib.itoa n).toArray⟩, 0⟩ : S35)] 0 = ⟨4, ⟨(Lib.itoa n).toArray⟩, 0⟩ := rfl
  rw [e2]
  simp only
  rw [if_pos trivial]
  simp only [bne_self_eq_false]
  simp only [ashlarlaw15_LexNumbers.j0]
  rw [ba_size (Lib.itoa n)]
  -- a nought ahead
  have a1 : (⟨#[32, 48]⟩ : ByteArray) ++ (⟨(Lib.itoa n).toArray⟩ : ByteArray) = ⟨(32 :: 48 :: Lib.itoa n).toArray⟩ := ba_app [32, 48] _
  have a2 : (⟨(Lib.itoa n).toArray⟩ : ByteArray) ++ (⟨#[97]⟩ : ByteArray) = ⟨(Lib.itoa n ++ [97]).toArray⟩ := ba_app _ [97]
  have a3 : (⟨#[43]⟩ : ByteArray) ++ (⟨(Lib.itoa n).toArray⟩ : ByteArray) = ⟨(43 :: Lib.itoa n).toArray⟩ := ba_app [43] _
  rw [a1, a2, a3]
  rw [lex_ok _ (by rw [ba_size]; simp; omega) _ (by omega), lex_ok _ (by rw [ba_size]; simp; omega) _ (by omega), lex_ok _ (by rw [ba_size]; simp; omega) _ (by omega)]
  have b1 : lexRes [] (Lex.lexA (⟨(32 :: 48 :: Lib.itoa n).toArray⟩ : ByteArray).data.toList) = ([], 1, 2) := by
    show lexRes [] (Lex.lexA (32 :: 48 :: Lib.itoa n)) = _
    have hp : (Lex.pieceP (48 :: Lib.itoa n)).2.2 = false := by
      rcases hc with rfl | hc
      · -- a '-' behind the nought
        have := Lex.piece_itoa 0 (by decide) (by decide) (Lib.itoa n) (by rw [hi]; intro c' t' h; injection h with h; subst h; unfold Lex.isD; decide)
        have e0 : Lib.itoa 0 = [48] := by unfold Lib.itoa; rw [if_neg (by decide), Lib.decDigits_one (by decide)]; rfl
        rw [e0, List.singleton_append] at this
        rw [this, hi]
        rfl
      · rw [Lex.piece_num 48 _ (.inr (by unfold Lex.isD; decide))]
        have hnum : ¬ n < 0 := by
          intro h
          unfold Lib.itoa at hi; rw [if_pos h] at hi
          injection hi with h1 h2; subst h1; unfold Lex.isD at hc; revert hc; decide
        have hall : ∀ x ∈ Lib.itoa n, Lex.isD x := by unfold Lib.itoa; rw [if_neg hnum]; exact Lex.dec_digits _
        have hnt : Lex.numText (48 :: Lib.itoa n) = 48 :: Lib.itoa n := by
          unfold Lex.numText
          rw [Lex.trim_no _ (by decide)]
          have := Lex.take_digits (48 :: Lib.itoa n) [] (by
            intro x hx
            rcases List.mem_cons.1 hx with rfl | hx
            · unfold Lex.isD; decide
            · exact hall x hx) (by intro c t h; cases h)
          rw [List.append_nil] at this
          rw [this, Nat.sub_self, Nat.zero_add, List.take_length]
        have hno : Lex.numOK (48 :: Lib.itoa n) = false := by
          unfold Lex.numOK
          have hp : Lib.parseIntB 64 (48 :: Lib.itoa n) = .ok n := by
            have h2 := Lex.parse_itoa n h0 h1
            rw [hi] at h2 ⊢
            unfold Lib.parseIntB at h2 ⊢
            have hcc : 48 ≤ c.toNat ∧ c.toNat ≤ 57 := hc
            simp only at h2 ⊢
            rw [if_neg (by omega)] at h2
            rw [if_neg (by decide)]
            have hu : Lib.parseUintB 64 (48 :: c :: t) = Lib.parseUintB 64 (c :: t) := by
              unfold Lib.parseUintB
              rw [if_neg (by simp), if_neg (by simp)]
              conv => lhs; unfold Lib.parseUintM
              rw [if_pos (by decide), if_neg (by decide), if_neg (by decide)]
              rfl
            rw [hu]
            have e45 : ¬ c.toNat = 45 := by omega
            have e48 : ¬ (48 : UInt8).toNat = 45 := by decide
            simp only [e45, e48] at h2 ⊢
            exact h2
          rw [hp]
          simp only
          rw [beq_eq_false_iff_ne]
          intro h
          have := congrArg List.length h
          simp at this
        rw [hnt, hno]; rfl
    have hsk : Lex.skipS false (32 :: 48 :: Lib.itoa n) = 48 :: Lib.itoa n := by
      show Lex.skipS false (48 :: Lib.itoa n) = _
      exact Lex.skip_none _ (by decide) (by decide)
    unfold Lex.lexA
    rw [hsk]
    unfold Lex.lexL
    rw [if_neg (by simp), if_neg (by rw [hp]; decide)]
    unfold lexRes
    rw [if_neg (by simp)]
    simp
  have b2 : lexRes [] (Lex.lexA (⟨(Lib.itoa n ++ [97]).toArray⟩ : ByteArray).data.toList) = ([], 0, 2) := by
    show lexRes [] (Lex.lexA (Lib.itoa n ++ [97])) = _
    have := Lex.piece_itoa n h0 h1 [97] (by intro c t h; injection h with h; subst h; unfold Lex.isD; decide)
    rw [lexA_bad _ c (t ++ [97]) (by rw [hi]; rfl) hs h59 (by rw [this]; rfl)]; rfl
  have b3 : lexRes [] (Lex.lexA (⟨(43 :: Lib.itoa n).toArray⟩ : ByteArray).data.toList) = ([], 0, 2) := by
    show lexRes [] (Lex.lexA (43 :: Lib.itoa n)) = _
    have hp : (Lex.pieceP (43 :: Lib.itoa n)).2.2 = false := by
      unfold Lex.pieceP
      have hnt : Lex.numText (43 :: Lib.itoa n) = [] := by
        unfold Lex.numText
        rw [Lex.trim_no _ (by decide), List.takeWhile_cons_of_neg (by decide), Nat.sub_self]; rfl
      simp only
      rw [if_neg (by decide), if_neg (by decide), if_neg (by decide), hnt, if_neg (by decide)]
    rw [lexA_bad _ 43 _ rfl (by decide) (by decide) hp]; rfl
  rw [b1, b2, b3]
  simp only [Option.bind_some]
  rw [int_ok n h0 h1 k (by omega)]
  simp
  omega

end Go.Proofs.YtnegkabafigfnaaDoor.Pure
