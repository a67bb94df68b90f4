/- Contracts of the library's functions that lex calls, and of lex's small ones. -/
import Derived.Test.YtnegkabafigfnaaDoorChecked
import Derived.Test.YtnegkabafigfnaaDoorShelf
import Derived.Shelf.Strings.SlTrimAscii
import Derived.WideShapes
import Derived.Test.YtnegkabafigfnaaDoorLexP
import Derived.Lib.AppendIntMem
import Derived.Lib.AtoiErrMem
import Derived.Lib.IndexBytes
import Derived.WalkKit
import Derived.Below
import Derived.OneCell
import Derived.KernelRfl
import Derived.Lib.Hide
import Derived.Deep.Draws
import Derived.Deep.QuietTactic
import Derived.BigQuiet
import Derived.Deep.RegionHeld3
import Derived.RegionTactic
import Derived.StillTailTactics
import Derived.IntWalk
namespace Go.Proofs.YtnegkabafigfnaaDoor.Lex
open Go.RowKit Go.Shelf
set_option linter.unusedVariables false
set_option linter.unusedSimpArgs false

/-- A text begins with a byte of some. -/
def isP : List UInt8 → List UInt8 → Bool
  | [], _ => false
  | c :: _, cs => cs.contains c

theorem indexByte_cases (l : List UInt8) (c : UInt8) : (l.contains c = true ∧ 0 ≤ Lib.indexByte l c) ∨ (l.contains c = false ∧ Lib.indexByte l c = -1) := by
  induction l with
  | nil => right; exact ⟨rfl, rfl⟩
  | cons b l ih =>
    unfold Lib.indexByte
    by_cases hb : b = c
    · subst hb; left; simp
    · have hb' : (b == c) = false := by simpa using hb
      have hc : (b :: l).contains c = l.contains c := by
        simp only [List.contains_cons]
        rw [show (c == b) = false by simpa using fun h => hb h.symm, Bool.false_or]
      rw [hc, hb']
      rcases ih with ⟨h1, h2⟩ | ⟨h1, h2⟩
      · left; refine ⟨h1, ?_⟩
        simp only [Bool.false_eq_true, if_false]
        split <;> rename_i h
        · have : Lib.indexByte l c = -1 := by simpa using h
          omega
        · omega
      · right; refine ⟨h1, ?_⟩; rw [h2]; rfl

theorem index_dec (l : List UInt8) (c : UInt8) : decide (0 ≤ Lib.indexByte l c) = l.contains c := by
  rcases indexByte_cases l c with ⟨h1, h2⟩ | ⟨h1, h2⟩
  · rw [h1, decide_eq_true h2]
  · rw [h1, h2]; rfl

set_option maxHeartbeats 1000000 in
theorem is_nil (of : ByteArray) (w : World) : Calls Tryd.prog 30 #[.string ⟨#[]⟩, .string of] w fun e w' => e = .returned (.bool false) ∧ w = w' := by
  go_enter Tryd.func30, Tryd.ntmps30
  go_wp2
  go_ret
  exact ⟨rfl, rfl⟩

theorem size_eq (s : ByteArray) : s.data.toList.length = s.size := Array.length_toList
theorem size_pos {s : ByteArray} {c : UInt8} {l : List UInt8} (hs : s.data.toList = c :: l) : 0 < s.size := by
  rw [← size_eq, hs]; simp
theorem head_eq {s : ByteArray} {c : UInt8} {l : List UInt8} (hs : s.data.toList = c :: l) (h : 0 < s.size) : s[0] = c := by
  have h1 : s.data.toList[0]? = some c := by rw [hs]; rfl
  have h2 : s.data[0]? = some c := by simpa using h1
  have h3 : 0 < s.data.size := h
  rw [Array.getElem?_eq_getElem h3] at h2
  exact Option.some.inj h2

set_option maxHeartbeats 1000000 in
theorem is_cons (s of : ByteArray) (c : UInt8) (l : List UInt8) (w : World) (hs : s.data.toList = c :: l) : Calls Tryd.prog 30 #[.string s, .string of] w fun e w' => e = .returned (.bool (of.data.toList.contains c)) ∧ w = w' := by
  have h0 := size_pos hs
  have hc := head_eq hs h0
  have hne : ¬ s.toList = [] := by rw [ByteArray.toList_eq, hs]; simp
  have hcon := Tryd.strings_IndexByte of (c.toNat : Int)
  have e1 := index_dec of.data.toList c
  have e2 : ((c.toNat : Int)).toNat.toUInt8 = c := by simp
  rw [e2] at hcon
  clear hs e2
  have E1 := Lib.hid e1; clear e1
  generalize Lib.indexByte of.data.toList c = k at *
  go_enter Tryd.func30, Tryd.ntmps30
  go_wp2_with fail
  refine (hcon _).mono ?_
  rintro e w1 ⟨rfl, rfl⟩
  go_wp2
  go_ret
  exact ⟨by rw [← E1.out]; simp [hne], rfl⟩

/-- lex.is. -/
theorem is_any (s of : ByteArray) (w : World) : Calls Tryd.prog 30 #[.string s, .string of] w fun e w' => e = .returned (.bool (isP s.data.toList of.data.toList)) ∧ w = w' := by
  cases h : s.data.toList with
  | nil =>
    have : s = ⟨#[]⟩ := by
      cases s; rename_i d; congr; exact Array.toList_inj.1 h
    subst this
    exact is_nil of w
  | cons c l => exact is_cons s of c l w h

theorem trimLeft_any (s cs : ByteArray) (w : World) (h : cs.size < 4294967281) (ha : cs.data.toList.all (fun b => decide (b.toNat < 128)) = true) :
    Calls Tryd.prog 27 #[.string s, .string cs] w fun e w' => e = .returned (.string ⟨(Lib.trimLeftS s.data.toList cs.data.toList).toArray⟩) ∧ Below w.heap.size w w' :=
  Any.strings_TrimLeft_laid Tryd.lays161 (by kernel_rfl) s cs w h (ascii_of_all ha)

theorem take_len (l : List UInt8) (p : UInt8 → Bool) : l.take (l.length - (l.dropWhile p).length) = l.takeWhile p := by
  have h := List.takeWhile_append_dropWhile (p := p) (l := l)
  have h2 : l.length = (l.takeWhile p).length + (l.dropWhile p).length := by
    rw [← List.length_append, h]
  rw [h2, Nat.add_sub_cancel]
  have h3 : (l.takeWhile p ++ l.dropWhile p).take (l.takeWhile p).length = l.takeWhile p := List.take_left
  rwa [h] at h3

set_option maxHeartbeats 1000000 in
/-- lex.run. -/
theorem run_any (s of : ByteArray) (w : World) (hs : s.size < 4294967281) (h : of.size < 4294967281) (ha : of.data.toList.all (fun b => decide (b.toNat < 128)) = true) :
    Calls Tryd.prog 31 #[.string s, .string of] w fun e w' => e = .returned (.string ⟨(s.data.toList.takeWhile (of.data.toList.contains ·)).toArray⟩) ∧ Below w.heap.size w w' := by
  have hcon := fun W => trimLeft_any s of W h ha
  have e1 : (⟨(s.data.toList.takeWhile (of.data.toList.contains ·)).toArray⟩ : ByteArray) = s.extract 0 (s.size - (Lib.trimLeftS s.data.toList of.data.toList).length) := by
    apply Go.WideShapes.bytes_inj
    rw [Lib.extract_data]
    simp only [List.drop_zero, Nat.sub_zero]
    rw [← size_eq]
    exact (take_len _ _).symm
  have hl : (Lib.trimLeftS s.data.toList of.data.toList).length ≤ s.size := by
    rw [← size_eq]; exact (List.dropWhile_sublist _).length_le
  clear ha
  have E1 := Lib.hid e1; clear e1
  generalize (⟨(s.data.toList.takeWhile (of.data.toList.contains ·)).toArray⟩ : ByteArray) = r at *
  generalize (Lib.trimLeftS s.data.toList of.data.toList) = k at *
  have hw : wrap64 (↑s.size - ↑k.length) = ((s.size - k.length : Nat) : Int) := by unfold wrap64; omega
  have hcon' := Lib.hid hcon; clear hcon
  go_enter Tryd.func31, Tryd.ntmps31
  go_wp2_with fail
  refine (hcon'.out _).mono ?_
  rintro e w1 ⟨rfl, hb1⟩
  go_wp2
  go_ret
  exact ⟨by rw [E1.out]; simp, (by repeat (first | exact Below.refl _ _ | with_reducible assumption | refine Below.alloc ?_ (by first | exact Nat.le_refl _ | (simp; done) | (simp; omega) | omega) _ | refine Below.setCell ?_ (by first | exact Nat.le_refl _ | (simp; done) | (simp; omega) | omega) _ | refine Below.drew ?_ | refine bdrewN ?_ _))⟩

/-- What the library's variables hold. -/
def LexGood (w : World) : Prop := (∃ te pe, w.cell? ⟨1, 0, none⟩ = some (.iface te pe)) ∧ (∃ te pe, w.cell? ⟨2, 0, none⟩ = some (.iface te pe)) ∧ Lib.TabIs Tryd.prog w "internal/strconv.uint64pow10" .u64 Lib.pow10Tab

theorem cell_keeps {W w1 : World} (hb : Below W.heap.size W w1) {b o : Nat} {v : Value} (h : W.cell? ⟨b, o, none⟩ = some v) : w1.cell? ⟨b, o, none⟩ = some v := by
  rw [hb.cell (p := ⟨b, o, none⟩) ?_, h]
  show b < W.heap.size
  by_cases hlt : b < W.heap.size
  · exact hlt
  · rw [World.cell?, Array.getElem?_eq_none (Nat.not_lt.1 hlt)] at h
    simp at h

theorem LexGood.on {w w' : World} (h : LexGood w) (hb : Below w.heap.size w w') : LexGood w' := by
  obtain ⟨⟨a, b, h2⟩, ⟨c, d, h3⟩, h4⟩ := h
  exact ⟨⟨a, b, cell_keeps hb h2⟩, ⟨c, d, cell_keeps hb h3⟩, (Lib.tabBelow_of_tabIs h4) _ hb⟩

theorem parse_ok (s : ByteArray) (w : World) (v : Int) (hs : s.size ≤ 281474976710656) (h : Lib.parseIntB 64 s.data.toList = .ok v) :
    Calls Tryd.prog 33 #[.string s, .int .i64 10, .int .i64 64] w fun e w' => e = .returned (.tuple #[.int .i64 v, .nilIface]) ∧ Below w.heap.size w w' := by
  refine (Tryd.strconv_ParseInt_10_at64_ok s (by omega) v h w).mono ?_
  rintro e w' ⟨rfl, rfl | ⟨t, rfl⟩⟩
  · exact ⟨rfl, Below.refl _ _⟩
  · exact ⟨rfl, Lib.bytesWorld_below _ _ _⟩

theorem parse_no (s : ByteArray) (w : World) (hG : LexGood w) (hs : s.size ≤ 281474976710656) (h : ∀ v, Lib.parseIntB 64 s.data.toList ≠ .ok v) :
    Calls Tryd.prog 33 #[.string s, .int .i64 10, .int .i64 64] w fun e w' => (∃ v N, e = .returned (.tuple #[.int .i64 v, .iface 83 (.pointer (some ⟨N, 0, none⟩))])) ∧ Below w.heap.size w w' := by
  obtain ⟨⟨a, b, h2⟩, ⟨c, d, h3⟩, -⟩ := hG
  rcases hp : Lib.parseIntB 64 s.data.toList with v | _ | _
  · exact absurd hp (h v)
  · refine (Any.strconv_ParseInt_10_at64_syntax Tryd.laysC174 s hs hp _ w h2 (.inr ⟨_, _, rfl⟩)).mono ?_
    rintro e w' ⟨N, rfl, -, -, hb⟩
    exact ⟨⟨_, N, rfl⟩, hb⟩
  · refine (Any.strconv_ParseInt_10_at64_range Tryd.laysC174 s hs hp _ w h3 (.inr ⟨_, _, rfl⟩)).mono ?_
    rintro e w' ⟨N, rfl, -, -, hb⟩
    exact ⟨⟨_, N, rfl⟩, hb⟩

theorem format_any (n : Int) (w : World) (hG : LexGood w) (h0 : -9223372036854775808 ≤ n) (h1 : n ≤ 9223372036854775807) :
    Calls Tryd.prog 34 #[.int .i64 n, .int .i64 10] w fun e w' => e = .returned (.string ⟨(Lib.itoa n).toArray⟩) ∧ Below w.heap.size w w' := by
  refine (Tryd.strconv_FormatInt_10 n h0 h1 w hG.2.2).mono ?_
  rintro e w' ⟨rfl, k, os, rfl⟩
  exact ⟨rfl, Lib.below_grow _ _ (Nat.le_refl _) _ _⟩

theorem indexByte_lt (l : List UInt8) (c : UInt8) : Lib.indexByte l c < l.length := by
  induction l with
  | nil => show (-1 : Int) < 0; decide
  | cons b l ih =>
    unfold Lib.indexByte
    rw [List.length_cons]
    split
    · omega
    · split <;> omega

set_option maxHeartbeats 1000000 in
theorem cutlite_any (s : ByteArray) (c : UInt8) (w : World) (hs : s.size < 4294967281) :
    Calls Tryd.prog 42 #[.string s, .string ⟨#[c]⟩] w fun e w' => e = .returned (.tuple #[.string ⟨(Lib.cut s.data.toList [c]).1.toArray⟩, .string ⟨(Lib.cut s.data.toList [c]).2.1.toArray⟩, .bool (Lib.cut s.data.toList [c]).2.2]) ∧ Below w.heap.size w w' := by
  have hi := Tryd.stringslite_Index_one s c
  have hlt := indexByte_lt s.data.toList c
  rw [size_eq] at hlt
  have hcut : Lib.cut s.data.toList [c] = if 0 ≤ Lib.indexByte s.data.toList c then (s.data.toList.take (Lib.indexByte s.data.toList c).toNat, s.data.toList.drop ((Lib.indexByte s.data.toList c).toNat + 1), true) else (s.data.toList, [], false) := by
    unfold Lib.cut; rw [Lib.index_one]; rfl
  by_cases h0 : 0 ≤ Lib.indexByte s.data.toList c
  · rw [hcut, if_pos h0]
    obtain ⟨k, hk⟩ := Int.eq_ofNat_of_zero_le h0
    rw [hk] at hi hlt ⊢
    rw [Int.toNat_natCast]
    have hk2 : k < s.size := by omega
    have e1 : (⟨(s.data.toList.take k).toArray⟩ : ByteArray) = s.extract 0 k := by
      apply Go.WideShapes.bytes_inj
      rw [Lib.extract_data]; simp
    have e2 : (⟨(s.data.toList.drop (k + 1)).toArray⟩ : ByteArray) = s.extract (k + 1) s.size := by
      apply Go.WideShapes.bytes_inj
      rw [Lib.extract_data, List.take_of_length_le]
      rw [List.length_drop, size_eq]; exact Nat.le_refl _
    show Calls _ _ _ _ fun e w' => e = .returned (.tuple #[.string ⟨(s.data.toList.take k).toArray⟩, .string ⟨(s.data.toList.drop (k + 1)).toArray⟩, .bool true]) ∧ _
    rw [e1, e2]
    clear hcut hk h0 e1 e2
    have hw : IntKind.i64.wrap ((k : Int) + 1) = (k : Int) + 1 := IntWalk.i64_in _ (by omega)
    have hb0 : (0 : Int) ≤ (k : Int) + 1 := by omega
    have hb1 : (k : Int) + 1 ≤ s.size := by omega
    have hb2 : ((k : Int) + 1).toNat = k + 1 := by omega
    have hb3 : (k : Int) ≤ s.size := by omega
    go_enter Tryd.func42, Tryd.ntmps42
    go_wp2_with fail
    refine (hi _).mono ?_
    rintro e w1 ⟨rfl, rfl⟩
    go_wp2
    go_quiet (fail)
    go_wp2
    go_ret3
    exact ⟨rfl, ⟨rfl, rfl, rfl, Nat.le_refl _, fun _ _ => rfl⟩⟩
  · rw [hcut, if_neg h0]
    generalize Lib.indexByte s.data.toList c = k at *
    clear hcut
    go_enter Tryd.func42, Tryd.ntmps42
    go_wp2_with fail
    refine (hi _).mono ?_
    rintro e w1 ⟨rfl, rfl⟩
    go_wp2
    go_ret3
    exact ⟨rfl, (by repeat (first | exact Below.refl _ _ | with_reducible assumption | refine Below.alloc ?_ (by first | exact Nat.le_refl _ | (simp; done) | (simp; omega) | omega) _ | refine Below.setCell ?_ (by first | exact Nat.le_refl _ | (simp; done) | (simp; omega) | omega) _ | refine Below.drew ?_ | refine bdrewN ?_ _))⟩

theorem cut_any (s : ByteArray) (c : UInt8) (w : World) (hs : s.size < 4294967281) :
    Calls Tryd.prog 29 #[.string s, .string ⟨#[c]⟩] w fun e w' => e = .returned (.tuple #[.string ⟨(Lib.cut s.data.toList [c]).1.toArray⟩, .string ⟨(Lib.cut s.data.toList [c]).2.1.toArray⟩, .bool (Lib.cut s.data.toList [c]).2.2]) ∧ Below w.heap.size w w' := by
  have hi := Lib.hid (fun W => cutlite_any s c W hs)
  go_enter Tryd.func29, Tryd.ntmps29
  go_wp2_with fail
  refine (hi.out _).mono ?_
  rintro e w1 ⟨rfl, hb1⟩
  go_wp2
  go_ret3
  exact ⟨rfl, hb1⟩

/-- A box whose last cell is written twice. -/
theorem cell_twice {w : World} {g : Nat} {z : Value} (h : w.cell? ⟨g, 2, none⟩ = some z) (a b c d : Value) : ((((w.setCell ⟨g, 0, none⟩ a).setCell ⟨g, 1, none⟩ b).setCell ⟨g, 2, none⟩ c).setCell ⟨g, 2, none⟩ d).cell? ⟨g, 2, none⟩ = some d := by
  have h1 : (w.setCell ⟨g, 0, none⟩ a).cell? ⟨g, 2, none⟩ = some z := (World.cell?_setCell_other _ _ _ _ (by simp)).trans h
  have h2 : ((w.setCell ⟨g, 0, none⟩ a).setCell ⟨g, 1, none⟩ b).cell? ⟨g, 2, none⟩ = some z := (World.cell?_setCell_other _ _ _ _ (by simp)).trans h1
  exact World.cell?_setCell_same _ _ _ (World.cell?_setCell_same _ _ _ h2)
end Go.Proofs.YtnegkabafigfnaaDoor.Lex
