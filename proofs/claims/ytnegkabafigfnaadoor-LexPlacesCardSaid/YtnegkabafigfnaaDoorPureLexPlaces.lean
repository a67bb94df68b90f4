/- Pure: LexPlaces: each token stands where it is said to. -/
import Derived.Test.YtnegkabafigfnaaDoorPLexPlacesx2
import Derived.Test.YtnegkabafigfnaaDoorLexV
import Derived.Test.YtnegkabafigfnaaDoorLexW
namespace Go.Proofs.YtnegkabafigfnaaDoor.Pure
open Go.RowKit Go.Proofs.YtnegkabafigfnaaDoor.Given Go.Proofs.YtnegkabafigfnaaDoor.PLexPlaces Go.Proofs.YtnegkabafigfnaaDoorW.PrintWords Go.Proofs.YtnegkabafigfnaaDoorW.PrintLast
set_option linter.unusedVariables false
set_option linter.unusedSimpArgs false

/-! ### what lex.Lex answers, as this text's functions tell it -/
theorem ba_eq (x : ByteArray) : (⟨x.data.toList.toArray⟩ : ByteArray) = x := by cases x; rfl
theorem ba_size (l : List UInt8) : (⟨l.toArray⟩ : ByteArray).size = l.length := Lex.mk_size l
theorem ba_toList (l : List UInt8) : (⟨l.toArray⟩ : ByteArray).toList = l := by rw [ByteArray.toList_eq]

theorem hasPrefix_semi (l : List UInt8) : strings_HasPrefix.f ⟨l.toArray⟩ ⟨#[59]⟩ = some (match l with | [] => false | c :: _ => c == 59) := by
  unfold strings_HasPrefix.f stringslite_HasPrefix.f
  cases l with
  | nil => rfl
  | cons c r =>
    rw [ba_size (c :: r)]
    have h1 : (⟨#[59]⟩ : ByteArray).size = 1 := rfl
    rw [h1]
    rw [if_pos (by rw [List.length_cons]; omega), if_pos (by decide), if_pos (by rw [List.length_cons]; omega)]
    simp only [Option.bind_some]
    rw [Lib.extract_toList]
    simp [ByteArray.toList_eq]

theorem trimLeft_sp (l : List UInt8) : strings_TrimLeft.f ⟨l.toArray⟩ ⟨#[9, 10, 13, 32]⟩ = some ⟨(l.dropWhile (Lex.spacesL.contains ·)).toArray⟩ := by
  unfold strings_TrimLeft.f
  rw [if_pos ⟨by decide, by decide⟩]
  rfl

theorem cut_nl (l : List UInt8) (h : l.length < 4294967281) : ∃ a b, strings_Cut.f ⟨l.toArray⟩ ⟨#[10]⟩ = some (a, ⟨((l.dropWhile (· != 10)).drop 1).toArray⟩, b) := by
  have e : strings_Cut.f ⟨l.toArray⟩ ⟨#[10]⟩ = some (⟨(Lib.cut l [10]).1.toArray⟩, ⟨(Lib.cut l [10]).2.1.toArray⟩, (Lib.cut l [10]).2.2) := by
    show (if (⟨l.toArray⟩ : ByteArray).size < 4294967281 then _ else none) = _
    rw [ba_size l, if_pos h]
  rw [e, Lex.cut_nl]
  exact ⟨_, _, rfl⟩

theorem skip_ok : ∀ (n : Nat) (l : List UInt8) (k : Nat), l.length = n → n < k → n < 4294967281 → lex_skip.f k ⟨l.toArray⟩ = some ⟨(Lex.skipS false l).toArray⟩ := by
  intro n
  induction n using Nat.strongRecOn with
  | ind n ih =>
  intro l k hl hk hn
  obtain ⟨k, rfl⟩ : ∃ m, k = m + 1 := ⟨k - 1, by omega⟩
  unfold lex_skip.f
  rw [Lex.skipS_drop]
  have hd : (l.dropWhile (Lex.spacesL.contains ·)).length ≤ l.length := (List.dropWhile_sublist _).length_le
  have hh : ∀ c r, l.dropWhile (Lex.spacesL.contains ·) = c :: r → Lex.spacesL.contains c = false := by
    intro c r h
    have := List.head?_dropWhile_not (Lex.spacesL.contains ·) l
    rw [h] at this
    simpa using this
  simp only [lex_skip.l0]
  rw [trimLeft_sp]
  simp only [Option.bind_some]
  rw [hasPrefix_semi]
  simp only [Option.bind_some]
  generalize l.dropWhile (Lex.spacesL.contains ·) = d at *
  cases d with
  | nil => rfl
  | cons c r =>
    have hc := hh c r rfl
    have e : Lex.skipS false (c :: r) = if Lex.spacesL.contains c then Lex.skipS false r else if c = 59 then Lex.skipS true r else c :: r := rfl
    rw [e, hc]
    simp only [Bool.false_eq_true, if_false]
    by_cases h59 : c = 59
    · subst h59
      rw [if_pos (show ((59 : UInt8) == 59) = true by decide)]
      obtain ⟨a, b, h⟩ := cut_nl (59 :: r) (by omega)
      rw [h]
      simp only [Option.bind_some]
      rw [Lex.skipS_rem, List.dropWhile_cons_of_pos (by decide)]
      have hlen : ((r.dropWhile (· != 10)).drop 1).length ≤ r.length := by
        rw [List.length_drop]
        have := (List.dropWhile_sublist (l := r) (· != 10)).length_le
        omega
      rw [List.length_cons] at hd
      exact ih _ (by omega) _ k rfl (by omega) (by omega)
    · rw [if_neg (by simpa using h59), if_neg h59]

def tokT (x : Int × List UInt8 × Nat) : S35 := ⟨x.1, ⟨x.2.1.toArray⟩, (x.2.2 : Int)⟩
def lexRes (acc : List S35) (r : List (Int × List UInt8 × Nat) × Nat × Bool) : List S35 × Int × Int := if r.2.2 = true then (acc ++ r.1.map tokT, (r.2.1 : Int), 0) else ([], (r.2.1 : Int), 2)

theorem loop_ok (s : ByteArray) (hs : s.size ≤ 20000) : ∀ (d k : Nat) (r : List UInt8) (acc : List S35), r.length < d → r.length + 20002 < k → r.length ≤ s.size → acc.length + r.length ≤ 20000 →
    lex_Lex.l0 k s acc ⟨r.toArray⟩ = some (lexRes acc (Lex.lexL s.size d r)) := by
  intro d
  induction d with
  | zero => intro k r acc h; omega
  | succ d ih =>
    intro k r acc h1 h2 h3 h4
    obtain ⟨k, rfl⟩ : ∃ m, k = m + 1 := ⟨k - 1, by omega⟩
    simp only [lex_Lex.l0]
    unfold Lex.lexL
    by_cases hr : r = []
    · subst hr
      rw [if_pos (by rw [ba_toList]), if_pos rfl]
      simp [lexRes]
    · rw [if_neg (by rw [ba_toList]; exact hr), if_neg hr]
      have hp : lex_piece.f ⟨r.toArray⟩ = some ((Lex.pieceP r).1, ⟨(Lex.pieceP r).2.1.toArray⟩, 0, (Lex.pieceP r).2.2) := by
        unfold lex_piece.f
        rw [ba_size r, if_pos ⟨by cases r with | nil => exact absurd rfl hr | cons _ _ => simp, by omega⟩]
      rw [hp]
      simp only [Option.bind_some]
      have hw : wrap64 ((s.size : Int) - ((⟨r.toArray⟩ : ByteArray).size : Int)) = ((s.size - r.length : Nat) : Int) := by
        rw [ba_size r]; unfold wrap64; omega
      by_cases hq : (Lex.pieceP r).2.2 = true
      · have hl := Lex.piece_len r hq
        rw [if_pos hq, if_pos hq, if_pos (by omega), ba_size (Lex.pieceP r).2.1, if_pos (by omega), if_pos (by rw [ba_size r]; omega)]
        have hx : (⟨r.toArray⟩ : ByteArray).extract (((Lex.pieceP r).2.1.length : Int)).toNat (⟨r.toArray⟩ : ByteArray).size = ⟨(r.drop (Lex.pieceP r).2.1.length).toArray⟩ := by
          apply Go.WideShapes.bytes_inj
          rw [Lib.extract_data, ba_size r, Int.toNat_natCast]
          rw [List.take_of_length_le (by simp)]
        have hsl := Lex.skipS_len (r.drop (Lex.pieceP r).2.1.length) false
        rw [List.length_drop] at hsl
        rw [hx, skip_ok _ _ k rfl (by rw [List.length_drop]; omega) (by rw [List.length_drop]; omega)]
        simp only [Option.bind_some]
        rw [hw, ih k _ _ (by omega) (by omega) (by omega) (by rw [List.length_append, List.length_singleton]; omega)]
        generalize Lex.lexL s.size d (Lex.skipS false (r.drop (Lex.pieceP r).2.1.length)) = q
        unfold lexRes
        by_cases hb : q.2.2 = true
        · rw [if_pos hb, if_pos hb]
          simp [tokT, hb]
        · rw [if_neg hb, if_neg hb]
      · rw [if_neg hq, if_neg hq, hw]
        simp [lexRes]

/-- lex.Lex. -/
theorem lex_ok (s : ByteArray) (hs : s.size ≤ 20000) (k : Nat) (hk : 50000 ≤ k) : lex_Lex.f k s = some (lexRes [] (Lex.lexA s.data.toList)) := by
  unfold lex_Lex.f
  rw [if_neg (by omega)]
  have hsz : s.data.toList.length = s.size := Lex.size_eq s
  have h1 := skip_ok s.size s.data.toList k hsz (by omega) (by omega)
  rw [ba_eq] at h1
  rw [h1]
  simp only [Option.bind_some]
  have hl := Lex.skipS_len s.data.toList false
  rw [hsz] at hl
  rw [loop_ok s hs (s.size + 1) k _ _ (by omega) (by omega) hl (by simp; omega)]
  unfold Lex.lexA
  rw [hsz]

theorem lex_long (s : ByteArray) (hs : 20000 < s.size) (k : Nat) : lex_Lex.f k s = some ([], 0, 7) := by
  unfold lex_Lex.f
  rw [if_pos (by omega)]

theorem shown_ok (k : Nat) (hk : 50000 ≤ k) : ashlarlaw15_shown.f k = some true := by
  unfold ashlarlaw15_shown.f
  rw [lex_ok _ (by decide) k hk, lex_ok _ (by decide) k hk]
  have e1 : lexRes [] (Lex.lexA (⟨#[40, 97, 32, 45, 49, 41, 32, 59, 32, 98]⟩ : ByteArray).data.toList) = ([⟨1, ⟨#[40]⟩, 0⟩, ⟨3, ⟨#[97]⟩, 1⟩, ⟨4, ⟨#[45, 49]⟩, 3⟩, ⟨2, ⟨#[41]⟩, 5⟩], 10, 0) := by
    show lexRes [] (Lex.lexA [40, 97, 32, 45, 49, 41, 32, 59, 32, 98]) = _
    rw [Lex.shownA]; rfl
  have e2 : lexRes [] (Lex.lexA (⟨#[97, 32, 48, 49]⟩ : ByteArray).data.toList) = ([], 2, 2) := by
    show lexRes [] (Lex.lexA [97, 32, 48, 49]) = _
    rw [Lex.shownB]; rfl
  rw [e1, e2]
  decide +kernel

theorem bytes_all (P : UInt8 → Prop) (h : ∀ n : Fin 256, P (UInt8.ofNat n.1)) (c : UInt8) : P c := by
  have := h ⟨c.toNat, c.toNat_lt⟩
  rwa [UInt8.ofNat_toNat] at this
theorem bt_here (p r : List UInt8) (c : UInt8) : bt ⟨(p ++ c :: r).toArray⟩ (p.length : Int) = (c.toNat : Int) := by
  have h : (p.length : Int).toNat < (⟨(p ++ c :: r).toArray⟩ : ByteArray).size := by rw [ba_size (p ++ c :: r)]; simp
  rw [← bt_at _ _ h]
  have e : (⟨(p ++ c :: r).toArray⟩ : ByteArray)[(p.length : Int).toNat]'h = c := by
    show (p ++ c :: r).toArray[(p.length : Int).toNat]'_ = c
    simp
  rw [e]
theorem app_one (p r : List UInt8) (c : UInt8) : p ++ c :: r = (p ++ [c]) ++ r := by simp
theorem next_at (p : List UInt8) (c : UInt8) (h : p.length ≤ 50000) : wrap64 ((p.length : Int) + 1) = ((p ++ [c]).length : Int) := by
  rw [List.length_append, List.length_singleton]; unfold wrap64; omega
theorem space_is (c : UInt8) : Lex.spacesL.contains c = (decide ((c.toNat : Int) = 9) || (decide ((c.toNat : Int) = 10) || (decide ((c.toNat : Int) = 13) || decide ((c.toNat : Int) = 32)))) :=
  bytes_all (fun c => Lex.spacesL.contains c = (decide ((c.toNat : Int) = 9) || (decide ((c.toNat : Int) = 10) || (decide ((c.toNat : Int) = 13) || decide ((c.toNat : Int) = 32))))) (by decide +kernel) c

theorem blank_loop : ∀ (r q : List UInt8) (k : Nat), r.length < k → q.length + r.length ≤ 5000 → (∀ c ∈ r, Lex.spacesL.contains c = true) → ashlarlaw15_blank.l0 k ⟨(q ++ r).toArray⟩ (q.length : Int) = some true
  | [], q, k, hk, hl, _ => by
    obtain ⟨k, rfl⟩ : ∃ j, k = j + 1 := ⟨k - 1, by omega⟩
    simp only [ashlarlaw15_blank.l0]
    rw [ba_size (q ++ []), if_neg (by simp)]
  | c :: r, q, k, hk, hl, hs => by
    obtain ⟨k, rfl⟩ : ∃ j, k = j + 1 := ⟨k - 1, by omega⟩
    rw [List.length_cons] at hk hl
    have h := blank_loop r (q ++ [c]) k (by omega) (by rw [List.length_append, List.length_singleton]; omega) (fun x hx => hs x (List.mem_cons_of_mem _ hx))
    rw [← app_one, ← next_at q c (by omega)] at h
    have hc := hs c (List.mem_cons_self ..)
    rw [space_is] at hc
    simp only [Bool.or_eq_true, decide_eq_true_eq] at hc
    simp only [ashlarlaw15_blank.l0]
    rw [ba_size (q ++ c :: r), if_pos (by simp; omega), if_pos (by omega), bt_here]
    rcases hc with hc | hc | hc | hc <;> (rw [hc]; simpa using h)

theorem blank_ok (r : List UInt8) (k : Nat) (hk : r.length < k) (hl : r.length ≤ 5000) (hs : ∀ c ∈ r, Lex.spacesL.contains c = true) : ashlarlaw15_blank.f k ⟨r.toArray⟩ = some true := by
  unfold ashlarlaw15_blank.f
  have h := blank_loop r [] k hk (by rw [List.length_nil]; omega) hs
  exact h

theorem skip_plain : ∀ l : List UInt8, (∀ c ∈ l, c ≠ 59) → ∃ sp, l = sp ++ Lex.skipS false l ∧ ∀ c ∈ sp, Lex.spacesL.contains c = true
  | [], _ => ⟨[], rfl, fun c hc => absurd hc List.not_mem_nil⟩
  | c :: l, h => by
    have e : Lex.skipS false (c :: l) = if Lex.spacesL.contains c then Lex.skipS false l else if c = 59 then Lex.skipS true l else c :: l := rfl
    rw [e]
    by_cases hs : Lex.spacesL.contains c = true
    · obtain ⟨sp, h1, h2⟩ := skip_plain l (fun x hx => h x (List.mem_cons_of_mem _ hx))
      rw [if_pos hs]
      refine ⟨c :: sp, by rw [List.cons_append, ← h1], fun x hx => ?_⟩
      rcases List.mem_cons.1 hx with rfl | hx
      · exact hs
      · exact h2 x hx
    · rw [if_neg hs, if_neg (h c (List.mem_cons_self ..))]
      exact ⟨[], rfl, fun x hx => absurd hx List.not_mem_nil⟩

theorem ex_mid (q ds R : List UInt8) : ((⟨(q ++ (ds ++ R)).toArray⟩ : ByteArray).extract (q.length : Int).toNat ((q.length + ds.length : Nat) : Int).toNat) = ⟨ds.toArray⟩ := by
  apply Go.WideShapes.bytes_inj
  rw [Lib.extract_data]
  simp
  rw [show (((q.length : Nat) : Int) + ((ds.length : Nat) : Int)).toNat - q.length = ds.length by omega]
  simp

theorem rd_tok (l : List (Int × List UInt8 × Nat)) (i : Nat) (h : i < l.length) : rd_T35 (l.map tokT) (i : Int) = tokT l[i] := by
  unfold rd_T35
  rw [Int.toNat_natCast]
  simp [List.getD, List.getElem?_map, List.getElem?_eq_getElem h]
theorem wrap_sum (a b : Nat) (h : a + b ≤ 50000) : wrap64 ((a : Int) + (b : Int)) = ((a + b : Nat) : Int) := by unfold wrap64; omega
theorem wrap_next (i : Nat) (h : i ≤ 50000) : wrap64 ((i : Int) + 1) = ((i + 1 : Nat) : Int) := by
  unfold wrap64; omega

theorem places_loop (n : Nat) (hn : n ≤ 2000) : ∀ (toks pre : List (Int × List UInt8 × Nat)) (p r : List UInt8) (d k : Nat), Lex.lexL n d (Lex.skipS false r) = (toks, n, true) → p.length + r.length = n → (∀ c ∈ r, c ≠ 59) → pre.length + toks.length ≤ 5000 → toks.length + n + 10 < k →
    ashlarlaw15_LexPlaces.l1 k ⟨(p ++ r).toArray⟩ true ((pre ++ toks).map tokT) (p.length : Int) (pre.length : Int) = some true := by
  intro toks
  induction toks with
  | nil =>
    intro pre p r d k hlex hlen h59 hpre hk
    rw [List.length_nil] at hpre hk
    obtain ⟨k, rfl⟩ : ∃ j, k = j + 1 := ⟨k - 1, by omega⟩
    obtain ⟨sp, hr, hsp⟩ := skip_plain r h59
    have hq : Lex.skipS false r = [] := by
      cases d with
      | zero => cases hlex
      | succ d =>
        unfold Lex.lexL at hlex
        by_cases h : Lex.skipS false r = []
        · exact h
        · rw [if_neg h] at hlex
          by_cases hp : (Lex.pieceP (Lex.skipS false r)).2.2 = true
          · rw [if_pos hp] at hlex
            obtain ⟨e1, e2⟩ := Prod.mk.inj hlex
            rw [e2] at e1
            cases e1
          · rw [if_neg hp] at hlex
            exact absurd (congrArg (fun q => q.2.2) hlex) (by simp)
    rw [hq, List.append_nil] at hr
    simp only [ashlarlaw15_LexPlaces.l1]
    rw [List.length_map, List.append_nil, if_neg (by omega), ba_size (p ++ r), List.length_append]
    have hex := ex_mid p r []
    rw [List.append_nil] at hex
    rw [if_pos trivial, if_pos (by omega), if_pos (by omega)]
    have hex2 : (⟨(p ++ r).toArray⟩ : ByteArray).extract (p.length : Int).toNat (p.length + r.length) = ⟨r.toArray⟩ := by
      rw [← hex]; rfl
    first | rw [hex2] | skip
    rw [blank_ok r k (by omega) (by omega) (by rw [hr]; exact hsp)]
    first | (simp; done) | (simp; omega)
  | cons t toks ih =>
    intro pre p r d k hlex hlen h59 hpre hk
    obtain ⟨k, rfl⟩ : ∃ j, k = j + 1 := ⟨k - 1, by omega⟩
    rw [List.length_cons] at hpre hk
    obtain ⟨sp, hr, hsp⟩ := skip_plain r h59
    generalize hq : Lex.skipS false r = q at *
    obtain ⟨d, rfl⟩ : ∃ j, d = j + 1 := by
      cases d with
      | zero => cases hlex
      | succ d => exact ⟨d, rfl⟩
    unfold Lex.lexL at hlex
    by_cases h : q = []
    · rw [if_pos h] at hlex; exact absurd (congrArg (fun q => q.1) hlex) (by simp)
    · rw [if_neg h] at hlex
      by_cases hp : (Lex.pieceP q).2.2 = true
      · rw [if_pos hp] at hlex
        obtain ⟨e1, e2⟩ := Prod.mk.inj hlex
        rw [e2] at e1
        simp only [if_true] at e1
        obtain ⟨e3, e4⟩ := List.cons.inj e1
        have hlen2 := Lex.piece_len q hp
        obtain ⟨-, hsplit⟩ := Lex.good_piece q hp
        have hrest : Lex.lexL n d (Lex.skipS false (q.drop (Lex.pieceP q).2.1.length)) = (toks, n, true) := by
          rw [← e4]; exact Prod.ext rfl e2
        subst e3
        generalize Lex.pieceP q = P at *
        obtain ⟨kd, tx, ok⟩ := P
        simp only at hp hlen2 hsplit hrest ⊢
        generalize q.drop tx.length = q2 at *
        have hql : tx.length + q2.length = q.length := by
          have := congrArg List.length hsplit
          rw [List.length_append] at this; omega
        have hrl : sp.length + q.length = r.length := by
          have := congrArg List.length hr
          rw [List.length_append] at this; omega
        have hplace : n - q.length = p.length + sp.length := by omega
        rw [hplace]
        have hmap : (pre ++ (kd, tx, p.length + sp.length) :: toks).length = pre.length + toks.length + 1 := by rw [List.length_append, List.length_cons]; omega
        have hrd : rd_T35 ((pre ++ (kd, tx, p.length + sp.length) :: toks).map tokT) (pre.length : Int) = ⟨kd, ⟨tx.toArray⟩, ((p.length + sp.length : Nat) : Int)⟩ := by
          rw [rd_tok _ _ (by omega), List.getElem_append_right (Nat.le_refl _)]
          simp [tokT]
        have hex1 := ex_mid (p ++ sp) tx q2
        rw [List.append_assoc, ← hsplit, ← hr, List.length_append] at hex1
        have hex2 := ex_mid p sp q
        rw [← hr] at hex2
        have hrec := ih (pre ++ [(kd, tx, p.length + sp.length)]) (p ++ (sp ++ tx)) q2 d k hrest (by rw [List.length_append, List.length_append]; omega) (fun c hc => h59 c (by rw [hr, hsplit]; exact List.mem_append_right _ (List.mem_append_right _ hc))) (by rw [List.length_append, List.length_singleton]; omega) (by omega)
        have e5 : pre ++ [(kd, tx, p.length + sp.length)] ++ toks = pre ++ (kd, tx, p.length + sp.length) :: toks := by simp
        have e6 : p ++ (sp ++ tx) ++ q2 = p ++ r := by rw [hr, hsplit]; simp
        rw [e5, e6] at hrec
        rw [List.length_append, List.length_append, List.length_append, List.length_singleton] at hrec
        simp only [ashlarlaw15_LexPlaces.l1]
        rw [hrd, List.length_map, hmap, if_pos (by omega), if_pos (by omega)]
        simp only
        rw [ba_size tx, wrap_sum _ _ (by omega), ba_size (p ++ r), List.length_append, ba_toList]
        rw [if_neg (by omega), if_neg (by omega), if_neg (by intro h0; rw [h0] at hlen2; exact absurd hlen2.1 (by simp)), if_pos (by omega), if_pos (by omega), if_pos (by omega), hex1, ba_toList, if_pos rfl, if_pos (by omega), if_pos (by omega), if_pos (by omega), hex2, blank_ok sp k (by omega) (by omega) hsp]
        simp only [Option.bind_some, if_true]
        rw [wrap_next _ (by omega)]
        rw [show p.length + (sp.length + tx.length) = p.length + sp.length + tx.length by omega] at hrec
        exact hrec
      · rw [if_neg hp] at hlex; exact absurd (congrArg (fun q => q.2.2) hlex) (by simp)

theorem scan_loop (C : Nat) (s : List UInt8) (T : List S35) (hfin : (∀ c ∈ s, c ≠ 59) → ∀ k, C < k → ashlarlaw15_LexPlaces.l1 k ⟨s.toArray⟩ true T 0 0 = some true) :
    ∀ (r q : List UInt8) (k : Nat), s = q ++ r → (∀ c ∈ q, c ≠ 59) → r.length + C + 1 < k → s.length ≤ 5000 → ashlarlaw15_LexPlaces.l0 k ⟨s.toArray⟩ true T (q.length : Int) = some true
  | [], q, k, hs, hq, hk, hl => by
    obtain ⟨k, rfl⟩ : ∃ j, k = j + 1 := ⟨k - 1, by omega⟩
    rw [List.append_nil] at hs
    simp only [ashlarlaw15_LexPlaces.l0]
    rw [ba_size s, if_neg (by rw [hs]; omega)]
    rw [List.length_nil] at hk
    exact hfin (by rw [hs]; exact hq) k (by omega)
  | c :: r, q, k, hs, hq, hk, hl => by
    obtain ⟨k, rfl⟩ : ∃ j, k = j + 1 := ⟨k - 1, by omega⟩
    rw [List.length_cons] at hk
    have hlen : s.length = q.length + r.length + 1 := by rw [hs, List.length_append, List.length_cons]; omega
    have hb : bt ⟨s.toArray⟩ (q.length : Int) = (c.toNat : Int) := by rw [hs]; exact bt_here q r c
    simp only [ashlarlaw15_LexPlaces.l0]
    rw [ba_size s, if_pos (by omega), if_pos (by omega), hb]
    by_cases h : (c.toNat : Int) = 59
    · rw [if_pos h]
    · rw [if_neg h, next_at q c (by omega)]
      have hc : c ≠ 59 := by rintro rfl; exact h rfl
      exact scan_loop C s T hfin r (q ++ [c]) k (by rw [hs]; exact app_one q r c) (fun x hx => by
        rcases List.mem_append.1 hx with hx | hx
        · exact hq x hx
        · rw [List.mem_singleton] at hx; subst hx; exact hc) (by omega) hl

theorem few_ok (a : ByteArray) : ∃ b : List UInt8, ashlarlaw15_few.f a = some ⟨b.toArray⟩ ∧ b.length ≤ 2000 := by
  unfold ashlarlaw15_few.f
  have h : 0 ≤ mn (a.size : Int) 2000 ∧ mn (a.size : Int) 2000 ≤ a.size ∧ mn (a.size : Int) 2000 ≤ 2000 := by unfold mn; split <;> omega
  rw [if_pos h.1, if_pos h.2.1]
  refine ⟨(a.extract 0 ((mn (a.size : Int) 2000) : Int).toNat).data.toList, by rw [ba_eq], ?_⟩
  rw [Lex.size_eq, ByteArray.size_extract]; omega

theorem LexPlaces : ashlarlaw15_LexPlaces.Pure := by
  intro a ha
  obtain ⟨k, hk⟩ : ∃ k : Nat, 100000 < k := ⟨100001, by omega⟩
  refine ⟨k, ?_⟩
  obtain ⟨s, hs, hl⟩ := few_ok a
  unfold ashlarlaw15_LexPlaces.f
  rw [shown_ok _ (by omega), hs]
  simp only [Option.bind_some]
  rw [lex_ok ⟨s.toArray⟩ (by rw [ba_size s]; omega) k (by omega)]
  have hA : Lex.lexA (⟨s.toArray⟩ : ByteArray).data.toList = Lex.lexA s := rfl
  rw [hA]
  simp only [Option.bind_some]
  have hg := Lex.lexed_good s.length (s.length + 1) (Lex.skipS false s)
  have hsl := Lex.skipS_len s false
  have hloop := places_loop s.length hl
  have hB : Lex.lexA s = Lex.lexL s.length (s.length + 1) (Lex.skipS false s) := rfl
  rw [← hB] at hg
  have hB2 := hB.symm
  generalize Lex.lexA s = q at *
  obtain ⟨A, e, ok⟩ := q
  cases ok with
  | false =>
    have r1 : lexRes [] (A, e, false) = ([], (e : Int), 2) := rfl
    rw [r1]
    simp
  | true =>
    obtain ⟨-, -, g3, g4⟩ := hg rfl
    simp only at g3 g4
    subst g4
    have r1 : lexRes [] (A, s.length, true) = (A.map tokT, (s.length : Int), 0) := rfl
    rw [r1]
    simp only
    rw [if_pos trivial]
    refine scan_loop 10000 s (A.map tokT) (fun h59 k hk => ?_) s [] k (by simp) (fun c hc => absurd hc List.not_mem_nil) (by omega) (by omega)
    have h := hloop A [] [] s (s.length + 1) k hB2 (by rw [List.length_nil]; omega) h59 (by rw [List.length_nil]; omega) (by omega)
    exact h

end Go.Proofs.YtnegkabafigfnaaDoor.Pure
