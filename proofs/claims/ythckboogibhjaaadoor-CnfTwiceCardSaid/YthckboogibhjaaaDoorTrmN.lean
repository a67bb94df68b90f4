/- term.Name: whether a text is a name. -/
import Derived.Test.YthckboogibhjaaaDoorShelf
import Derived.Test.YthckboogibhjaaaDoorTrmA
import Derived.Shelf.Strings.SlTrimAscii
import Derived.Lib.SlTrimSet
import Derived.Lib.Hide
namespace Go.Proofs.YthckboogibhjaaaDoor.Trm
set_option linter.unusedVariables false
set_option linter.unusedSimpArgs false
open Go.RowKit Go.Proofs.YthckboogibhjaaaDoorW.PrintWords Go.Proofs.YthckboogibhjaaaDoorW.PrintMore

def letters : List UInt8 := [65, 66, 67, 68, 69, 70, 71, 72, 73, 74, 75, 76, 77, 78, 79, 80, 81, 82, 83, 84, 85, 86, 87, 88, 89, 90, 97, 98, 99, 100, 101, 102, 103, 104, 105, 106, 107, 108, 109, 110, 111, 112, 113, 114, 115, 116, 117, 118, 119, 120, 121, 122]
def inName : List UInt8 := letters ++ [48, 49, 50, 51, 52, 53, 54, 55, 56, 57, 95]

/-- A text is a name. -/
def nameB (s : ByteArray) : Bool := match s.data.toList with
  | [] => false
  | c :: l => decide (l.length + 1 ≤ 16) && letters.contains c && (c :: l).all (inName.contains ·)

theorem indexByte_ge (l : List UInt8) (c : UInt8) : decide (Lib.indexByte l c ≥ 0) = l.contains c ∧ (Lib.indexByte l c = -1 ∨ 0 ≤ Lib.indexByte l c) := by
  induction l with
  | nil => simp [Lib.indexByte]
  | cons b l ih =>
    obtain ⟨h1, h2⟩ := ih
    rw [Lib.indexByte]
    by_cases hb : b = c
    · subst hb; simp
    · have hbc : (b == c) = false := beq_eq_false_iff_ne.2 hb
      have hcb : (c == b) = false := beq_eq_false_iff_ne.2 (Ne.symm hb)
      rw [hbc, List.contains_cons, hcb, Bool.false_or, ← h1]
      rcases h2 with h2 | h2
      · rw [h2]; simp
      · have : (Lib.indexByte l c == -1) = false := beq_eq_false_iff_ne.2 (by omega)
        rw [this]
        simp only [Bool.false_eq_true, if_false]
        refine ⟨?_, by omega⟩
        have a : Lib.indexByte l c + 1 ≥ 0 := by omega
        have b : Lib.indexByte l c ≥ 0 := h2
        rw [decide_eq_true a, decide_eq_true b]

theorem dropWhile_nil (p : UInt8 → Bool) (l : List UInt8) : l.dropWhile p = [] ↔ l.all p = true := by
  induction l with
  | nil => simp
  | cons a l ih =>
    rw [List.dropWhile_cons]
    by_cases h : p a = true
    · rw [if_pos h, ih]; simp [h]
    · rw [if_neg h]; simp [h]

theorem all_takeWhile (p : UInt8 → Bool) (l : List UInt8) : (l.takeWhile p).all p = true := by
  induction l with
  | nil => rfl
  | cons a l ih =>
    rw [List.takeWhile_cons]
    by_cases h : p a = true
    · rw [if_pos h, List.all_cons, h, ih]; rfl
    · rw [if_neg h]; rfl

theorem trimS_nil (l cs : List UInt8) : Lib.trimS l cs = [] ↔ l.all (cs.contains ·) = true := by
  unfold Lib.trimS Lib.trimLeftS
  rw [dropWhile_nil]
  unfold Lib.trimRightS
  constructor
  · intro h
    have h2 := List.takeWhile_append_dropWhile (p := (cs.contains ·)) (l := l.reverse)
    have h3 : l.reverse.all (cs.contains ·) = true := by
      rw [← h2, List.all_append, Bool.and_eq_true]
      refine ⟨?_, by rwa [List.all_reverse] at h⟩
      exact all_takeWhile _ _
    rwa [List.all_reverse] at h3
  · intro h
    rw [List.all_reverse]
    have h3 : l.reverse.all (cs.contains ·) = true := by rwa [List.all_reverse]
    rw [(dropWhile_nil _ _).2 h3]; rfl

theorem lettersA : (⟨#[65, 66, 67, 68, 69, 70, 71, 72, 73, 74, 75, 76, 77, 78, 79, 80, 81, 82, 83, 84, 85, 86, 87, 88, 89, 90, 97, 98, 99, 100, 101, 102, 103, 104, 105, 106, 107, 108, 109, 110, 111, 112, 113, 114, 115, 116, 117, 118, 119, 120, 121, 122]⟩ : ByteArray).data.toList = letters := rfl
theorem inNameA : (⟨#[65, 66, 67, 68, 69, 70, 71, 72, 73, 74, 75, 76, 77, 78, 79, 80, 81, 82, 83, 84, 85, 86, 87, 88, 89, 90, 97, 98, 99, 100, 101, 102, 103, 104, 105, 106, 107, 108, 109, 110, 111, 112, 113, 114, 115, 116, 117, 118, 119, 120, 121, 122, 48, 49, 50, 51, 52, 53, 54, 55, 56, 57, 95]⟩ : ByteArray).data.toList = inName := rfl

theorem len_data (s : ByteArray) : s.data.toList.length = s.size := by rw [Array.length_toList]; rfl
theorem nameB_nil {s : ByteArray} (h : s.toList = []) : nameB s = false := by
  rw [Lib.toList_data] at h; unfold nameB; rw [h]
theorem nameB_pos {s : ByteArray} (h : 0 < s.size) : nameB s = (decide (s.size ≤ 16) && letters.contains (s[0]'h) && s.data.toList.all (inName.contains ·)) := by
  have hl := len_data s
  have h0 : s[0]'h = s.data.toList[0]'(by omega) := by simp [ByteArray.getElem_eq_getElem_data]
  rw [h0]
  unfold nameB
  split
  · rename_i e; simp [e] at hl; omega
  · rename_i c l e
    have : s.size = l.length + 1 := by rw [← hl, e]; rfl
    simp only [e, this, List.getElem_cons_zero]

set_option maxHeartbeats 4000000 in
set_option maxRecDepth 100000 in
theorem Name_any (s : ByteArray) (w : World) :
    Calls Tryd.prog 51 #[.string s] w fun e w' => e = .returned (.bool (nameB s)) ∧ Below w.heap.size w w' := by
  have hI : ∀ (c : Int) (W : World), Calls Tryd.prog 55 #[.string ⟨#[65, 66, 67, 68, 69, 70, 71, 72, 73, 74, 75, 76, 77, 78, 79, 80, 81, 82, 83, 84, 85, 86, 87, 88, 89, 90, 97, 98, 99, 100, 101, 102, 103, 104, 105, 106, 107, 108, 109, 110, 111, 112, 113, 114, 115, 116, 117, 118, 119, 120, 121, 122]⟩, .int .u8 c] W fun e w' => e = .returned (.int .i64 (Lib.indexByte letters c.toNat.toUInt8)) ∧ w' = W := fun c W => Tryd.strings_IndexByte _ c W
  have hT : ∀ (W : World), s.size ≤ 16 → Calls Tryd.prog 56 #[.string s, .string ⟨#[65, 66, 67, 68, 69, 70, 71, 72, 73, 74, 75, 76, 77, 78, 79, 80, 81, 82, 83, 84, 85, 86, 87, 88, 89, 90, 97, 98, 99, 100, 101, 102, 103, 104, 105, 106, 107, 108, 109, 110, 111, 112, 113, 114, 115, 116, 117, 118, 119, 120, 121, 122, 48, 49, 50, 51, 52, 53, 54, 55, 56, 57, 95]⟩] W fun e w' => e = .returned (.string ⟨(Lib.trimS s.data.toList inName).toArray⟩) ∧ Below W.heap.size W w' :=
    fun W h => Any.strings_Trim_laid Tryd.lays160 (by kernel_rfl) s _ W (by omega) (by decide) (ascii_of_all (by decide))
  have HI := Lib.hid hI
  have HT := Lib.hid hT
  clear hI hT
  go_enter Tryd.func51, Tryd.ntmps51
  by_cases hn : s.size = 0
  · have hs0 : s.toList = [] := by rw [Lib.toList_data]; exact List.length_eq_zero_iff.1 (by rw [len_data]; exact hn)
    go_wp2
    exact bodyPost_ret (v := .bool false) (by simp [results, Tryd.results51, go_sem]) rfl ⟨by rw [nameB_nil hs0], Below.refl _ _⟩
  · have h1 : 0 < s.size := by omega
    have hN := nameB_pos h1
    have HN := Lib.hid hN
    clear hN
    go_wp2_with (first | (go_at_call 55; refine (HI.out _ _).mono ?_; rintro e w1 ⟨rfl, rfl⟩) | (go_at_call 56; refine (HT.out _ (by omega)).mono ?_; rintro e w1 ⟨rfl, hb1⟩))
    · rename_i hs0
      exact bodyPost_ret (v := .bool false) (by simp [results, Tryd.results51, go_sem]) rfl ⟨by rw [nameB_nil hs0], Below.refl _ _⟩
    · rename_i hs1 hs2 w2 hi
      have h2 := (indexByte_ge letters (s[0]'h1)).1
      rw [decide_eq_true (show Lib.indexByte letters (s[0]'h1) ≥ 0 from hi)] at h2
      have h3 := trimS_nil s.data.toList inName
      have h4 : (!s.toList.isEmpty && (Lib.trimS s.data.toList inName).isEmpty) = s.data.toList.all (inName.contains ·) := by
        have e1 : s.toList.isEmpty = false := by rw [List.isEmpty_eq_false_iff]; exact hs1
        rw [e1, Bool.not_false, Bool.true_and, Bool.eq_iff_iff, List.isEmpty_iff]; exact h3
      refine bodyPost_ret (v := .bool (!s.toList.isEmpty && (Lib.trimS s.data.toList inName).isEmpty)) (by simp [results, Tryd.results51, go_sem]) rfl ⟨?_, hb1⟩
      rw [h4, HN.out, ← h2, decide_eq_true (show s.size ≤ 16 by omega)]; rfl
    · rename_i hs1 hs2 hi
      have h2 := (indexByte_ge letters (s[0]'h1)).1
      rw [decide_eq_false (show ¬ Lib.indexByte letters (s[0]'h1) ≥ 0 by omega)] at h2
      exact bodyPost_ret (v := .bool false) (by simp [results, Tryd.results51, go_sem]) rfl ⟨by rw [HN.out, ← h2]; simp, Below.refl _ _⟩
    · rename_i hs1 hs2
      exact bodyPost_ret (v := .bool false) (by simp [results, Tryd.results51, go_sem]) rfl ⟨by rw [HN.out, decide_eq_false (show ¬ s.size ≤ 16 by omega)]; simp, Below.refl _ _⟩
end Go.Proofs.YthckboogibhjaaaDoor.Trm
