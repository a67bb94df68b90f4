/- The contracts of lex and the library, in the form in which a printed text meets a callee. -/
import Derived.Test.YtnegkabafigfnaaDoorLexF
namespace Go.Proofs.YtnegkabafigfnaaDoor.Given
open Go.RowKit Go.Proofs.YtnegkabafigfnaaDoor.Lex

def strings_TrimLeft.f (a0 a1 : ByteArray) : Option ByteArray := if a1.size < 4294967281 ∧ a1.data.toList.all (fun b => decide (b.toNat < 128)) = true then some ⟨(Lib.trimLeftS a0.data.toList a1.data.toList).toArray⟩ else none
theorem strings_TrimLeft.calls (a0 a1 r : ByteArray) (w : World) (h : strings_TrimLeft.f a0 a1 = some r) :
    Calls Tryd.prog 27 #[.string a0, .string a1] w fun e w' => e = .returned (.string r) ∧ Below w.heap.size w w' := by
  unfold strings_TrimLeft.f at h
  split at h
  · rename_i hd
    have := trimLeft_any a0 a1 w hd.1 hd.2
    rw [Option.some.inj h] at this
    exact this
  · cases h

def strings_Cut.f (a0 a1 : ByteArray) : Option (ByteArray × ByteArray × Bool) := match a1.data.toList with
  | [c] => if a0.size < 4294967281 then some (⟨(Lib.cut a0.data.toList [c]).1.toArray⟩, ⟨(Lib.cut a0.data.toList [c]).2.1.toArray⟩, (Lib.cut a0.data.toList [c]).2.2) else none
  | _ => none
theorem strings_Cut.calls (a0 a1 r1 r2 : ByteArray) (r3 : Bool) (w : World) (h : strings_Cut.f a0 a1 = some (r1, r2, r3)) :
    Calls Tryd.prog 29 #[.string a0, .string a1] w fun e w' => e = .returned (.tuple #[.string r1, .string r2, .bool r3]) ∧ Below w.heap.size w w' := by
  unfold strings_Cut.f at h
  split at h
  · rename_i c hc
    have e : a1 = ⟨#[c]⟩ := Go.WideShapes.bytes_inj hc
    split at h
    · rename_i hd
      have := cut_any a0 c w hd
      simp only [Option.some.injEq, Prod.mk.injEq] at h
      rw [h.1, h.2.1, h.2.2] at this
      rw [e]
      exact this
    · cases h
  · cases h

def lex_piece.f (a0 : ByteArray) : Option (Int × ByteArray × Int × Bool) := if a0.size ≠ 0 ∧ a0.size ≤ 1000000 then some ((pieceP a0.data.toList).1, ⟨(pieceP a0.data.toList).2.1.toArray⟩, 0, (pieceP a0.data.toList).2.2) else none
theorem lex_piece.calls (a0 : ByteArray) (r1 : Int) (r2 : ByteArray) (r3 : Int) (r4 : Bool) (w : World) (hG : LexGood w) (h : lex_piece.f a0 = some (r1, r2, r3, r4)) :
    Calls Tryd.prog 19 #[.string a0] w fun e w' => e = .returned (.tuple #[.agg #[.int .i64 r1, .string r2, .int .i64 r3], .bool r4]) ∧ Below w.heap.size w w' := by
  unfold lex_piece.f at h
  split at h
  · rename_i hd
    have := piece_any a0 w hG hd.1 hd.2
    simp only [Option.some.injEq, Prod.mk.injEq] at h
    rw [h.1, h.2.1, h.2.2.2] at this
    rw [← h.2.2.1]
    exact this
  · cases h

theorem joinP_mono (l : List Tk) : ∀ k, k ≤ l.length → (joinP (l.take k)).length ≤ (joinP l).length := by
  have step : ∀ d, d ≤ l.length → (joinP (l.take (l.length - d))).length ≤ (joinP l).length := by
    intro d
    induction d with
    | zero => intro _; rw [Nat.sub_zero, List.take_length]; exact Nat.le_refl _
    | succ d ih =>
      intro hd
      have h := sep_nil zT l (l.length - (d + 1)) (by omega)
      rw [show l.length - (d + 1) + 1 = l.length - d by omega] at h
      have := ih (by omega)
      rw [h] at this
      simp only [List.length_append] at this
      omega
  intro k hk
  have := step (l.length - k) (by omega)
  rwa [show l.length - (l.length - k) = k by omega] at this
end Go.Proofs.YtnegkabafigfnaaDoor.Given
