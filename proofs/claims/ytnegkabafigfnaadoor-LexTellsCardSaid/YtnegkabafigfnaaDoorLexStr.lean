/- Texts compared: '>' tells by '<' turned round. -/
import Derived.Test.YtnegkabafigfnaaDoorLexGiven
namespace Go.Proofs.YtnegkabafigfnaaDoor.Lex
open Go.RowKit
theorem less_swap : ∀ (x y : List UInt8), (!(Op.bytesLess x y || x == y)) = Op.bytesLess y x
  | [], [] => by decide
  | _ :: _, [] => by simp [Op.bytesLess]
  | [], _ :: _ => by simp [Op.bytesLess]
  | a :: x, b :: y => by
    have ih := less_swap x y
    simp only [Op.bytesLess]
    rw [← ih]
    by_cases h1 : a < b
    · have h2 : ¬ b < a := by rw [UInt8.lt_iff_toNat_lt] at *; omega
      have h3 : ¬ b = a := by rintro rfl; exact absurd h1 (by rw [UInt8.lt_iff_toNat_lt]; omega)
      simp [h1, h2, h3]
    · by_cases h2 : b < a
      · have h3 : ¬ a = b := by rintro rfl; exact absurd h2 (by rw [UInt8.lt_iff_toNat_lt]; omega)
        simp [h1, h2, h3]
      · have h3 : a = b := by apply UInt8.toNat_inj.1; rw [UInt8.lt_iff_toNat_lt] at *; omega
        subst h3
        simp [h1]
theorem gtr_str {P : Program} {w : World} (t : TypeId) (a b : ByteArray) : (binOp .gtr t (.string a) (.string b)).run P w = .ok (.bool (Op.bytesLess b.toList a.toList)) w := by
  have e : binOp .gtr t (.string a) (.string b) = pure (.bool !(Op.bytesLess a.toList b.toList || a.toList == b.toList)) := rfl
  rw [e, less_swap]
  rfl
theorem wrap_left (a b : Int) : wrap64 (wrap64 a + b) = wrap64 (a + b) := by unfold wrap64; omega
theorem head_size (a : ByteArray) (j : Int) : ((a.extract 0 j.toNat).size : Int) = ((min j.toNat a.size : Nat) : Int) := by
  rw [ByteArray.size_extract, Nat.sub_zero]
end Go.Proofs.YtnegkabafigfnaaDoor.Lex
