/- The contract of lex.piece, joined. -/
import Derived.Test.YtnegkabafigfnaaDoorLexC
namespace Go.Proofs.YtnegkabafigfnaaDoor.Lex
open Go.RowKit Go.Shelf
set_option linter.unusedVariables false
set_option linter.unusedSimpArgs false

theorem parse_bound {l : List UInt8} {v : Int} (h : Lib.parseIntB 64 l = .ok v) : -9223372036854775808 ≤ v ∧ v ≤ 9223372036854775807 := by
  unfold Lib.parseIntB at h
  cases l with
  | nil => cases h
  | cons c r =>
    simp only at h
    split at h
    · cases h
    · cases h
    · rename_i u hu
      split at h
      · cases h
      · split at h
        · cases h
        · rename_i h1 h2
          injection h with h
          subst h
          by_cases hc : c.toNat = 45
          · rw [if_pos hc]
            have : ¬ (2 ^ (64 - 1) < u) := fun x => h2 ⟨hc, x⟩
            have e : (2 : Nat) ^ (64 - 1) = 9223372036854775808 := by decide
            rw [e] at this
            omega
          · rw [if_neg hc]
            have : ¬ (2 ^ (64 - 1) ≤ u) := fun x => h1 ⟨hc, x⟩
            have e : (2 : Nat) ^ (64 - 1) = 9223372036854775808 := by decide
            rw [e] at this
            omega

theorem trimPrefix_len (l p : List UInt8) : (Lib.trimPrefix l p).length ≤ l.length := by
  unfold Lib.trimPrefix
  split
  · rw [List.length_drop]; omega
  · exact Nat.le_refl _

theorem mk_size (l : List UInt8) : (⟨l.toArray⟩ : ByteArray).size = l.length := by
  show l.toArray.size = _
  simp

set_option maxHeartbeats 1000000 in
/-- lex.piece. -/
theorem piece_any (s : ByteArray) (w : World) (hG : LexGood w) (h0 : s.size ≠ 0) (hz : s.size ≤ 1000000) :
    Calls Tryd.prog 19 #[.string s] w fun e w' => e = .returned (PV (pieceP s.data.toList).1 ⟨(pieceP s.data.toList).2.1.toArray⟩ (pieceP s.data.toList).2.2) ∧ Below w.heap.size w w' := by
  cases hs : s.data.toList with
  | nil => exact absurd (by rw [← size_eq, hs]; rfl) h0
  | cons c l =>
    by_cases h40 : c = 40
    · subst h40; unfold pieceP; exact piece_open s l w hs
    by_cases h41 : c = 41
    · subst h41; unfold pieceP; exact piece_close s l w hs
    by_cases hl : lettersL.contains c = true
    · have e : pieceP (c :: l) = (3, (c :: l).takeWhile (innerL.contains ·), endOK ((c :: l).drop ((c :: l).takeWhile (innerL.contains ·)).length)) := by
        unfold pieceP; simp only [h40, h41, if_false, hl, if_true]
      rw [e]
      exact piece_word s c l w hs h40 h41 hl (by omega)
    · have hp := size_pos hs
      have hc := head_eq hs hp
      have e40 := byte_ne (n := 40) (c := c) fun h => h40 (UInt8.toNat_inj.1 h)
      have e41 := byte_ne (n := 41) (c := c) fun h => h41 (UInt8.toNat_inj.1 h)
      have hl' : lettersL.contains c = false := by simpa using hl
      have k1 := Lib.hid (fun W => is_any s ⟨lettersL.toArray⟩ W)
      rw [hs, show isP (c :: l) (⟨lettersL.toArray⟩ : ByteArray).data.toList = false from hl'] at k1
      have kT := Lib.hid (fun W => Tryd.strings_TrimPrefix s ⟨#[45]⟩ W)
      rw [hs, show (⟨#[45]⟩ : ByteArray).data.toList = [45] from rfl] at kT
      have t1 := trimPrefix_len (c :: l) [45]
      have z1 : (c :: l).length = s.size := by rw [← size_eq, hs]
      have k2 := Lib.hid (fun W => run_any ⟨(Lib.trimPrefix (c :: l) [45]).toArray⟩ ⟨digitsL.toArray⟩ W (by rw [mk_size]; omega) (by decide) (by decide))
      have hdl : ((Lib.trimPrefix (c :: l) [45]).takeWhile (digitsL.contains ·)).length ≤ (Lib.trimPrefix (c :: l) [45]).length := (List.takeWhile_sublist _).length_le
      have e : pieceP (c :: l) = if numOK (numText (c :: l)) then (4, numText (c :: l), endOK ((c :: l).drop (numText (c :: l)).length)) else (0, [], false) := by
        unfold pieceP; simp only [h40, h41, if_false, hl', Bool.false_eq_true]
      have htx : s.extract 0 (s.size - (⟨(Lib.trimPrefix (c :: l) [45]).toArray⟩ : ByteArray).size + ((Lib.trimPrefix (c :: l) [45]).takeWhile (digitsL.contains ·)).length) = ⟨(numText (c :: l)).toArray⟩ := by
        rw [← z1]
        apply Go.WideShapes.bytes_inj
        rw [Lib.extract_data, hs, mk_size]
        unfold numText
        simp only [List.drop_zero, Nat.sub_zero]
      have hnl : (numText (c :: l)).length ≤ s.size := by
        unfold numText; rw [List.length_take]; omega
      generalize numText (c :: l) = nt at *
      rcases hp : Lib.parseIntB 64 nt with v | _ | _
      ·
        have kp : Hid (∀ W, LexGood W → Calls Tryd.prog 33 #[.string ⟨nt.toArray⟩, .int .i64 10, .int .i64 64] W fun e w' => e = .returned (.tuple #[.int .i64 v, .nilIface]) ∧ Below W.heap.size W w') :=
          Lib.hid (fun W _ => parse_ok ⟨nt.toArray⟩ W v (by rw [mk_size]; omega) hp)
        have kf := Lib.hid (fun W (g : LexGood W) => format_any v W g (parse_bound hp).1 (parse_bound hp).2)
        by_cases hf : Lib.itoa v = nt
        · have hok : numOK nt = true := by
            unfold numOK; rw [hp]; simpa using hf
          rw [e, hok, if_pos rfl]
          have hr := rest_of hs nt.length
          have := piece_num_ok s c _ _ _ w hG (size_pos hs) hc e40 e41 (by omega) k1 kT k2 (by rw [mk_size]; omega) (by rw [mk_size]; exact hdl) htx v ⟨(Lib.itoa v).toArray⟩ (by rw [hf]) ((c :: l).drop nt.length) (by rw [mk_size]; exact hr) kp kf
          exact this
        · have hok : numOK nt = false := by
            unfold numOK; rw [hp]; simpa using hf
          rw [e, hok, if_neg (by decide)]
          have hne : ¬ (⟨(Lib.itoa v).toArray⟩ : ByteArray).toList = (⟨nt.toArray⟩ : ByteArray).toList := by
            rw [ByteArray.toList_eq, ByteArray.toList_eq]; exact hf
          have := piece_num_bad s c _ _ _ w hG (size_pos hs) hc e40 e41 (by omega) k1 kT k2 (by rw [mk_size]; omega) (by rw [mk_size]; exact hdl) htx v ⟨(Lib.itoa v).toArray⟩ hne (by simpa using hne) kp kf
          exact this
      · have hok : numOK nt = false := by unfold numOK; rw [hp]
        rw [e, hok, if_neg (by decide)]
        exact piece_num_no s c _ _ _ w hG (size_pos hs) hc e40 e41 (by omega) k1 kT k2 (by rw [mk_size]; omega) (by rw [mk_size]; exact hdl) htx (Lib.hid (fun W g => parse_no ⟨nt.toArray⟩ W g (by rw [mk_size]; omega) (fun v h => by
          have h2 : Lib.parseIntB 64 nt = .ok v := h
          rw [hp] at h2; cases h2)))
      · have hok : numOK nt = false := by unfold numOK; rw [hp]
        rw [e, hok, if_neg (by decide)]
        exact piece_num_no s c _ _ _ w hG (size_pos hs) hc e40 e41 (by omega) k1 kT k2 (by rw [mk_size]; omega) (by rw [mk_size]; exact hdl) htx (Lib.hid (fun W g => parse_no ⟨nt.toArray⟩ W g (by rw [mk_size]; omega) (fun v h => by
          have h2 : Lib.parseIntB 64 nt = .ok v := h
          rw [hp] at h2; cases h2)))
end Go.Proofs.YtnegkabafigfnaaDoor.Lex
