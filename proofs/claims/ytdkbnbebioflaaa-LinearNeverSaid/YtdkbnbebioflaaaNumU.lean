/- Contracts of num: Plus and Minus, from what sum answers. -/
import Derived.Test.YtdkbnbebioflaaaNumJ
namespace Go.Proofs
theorem Z2v0 {p : Prop} (h : p := by first | exact Nat.le_refl _ | (simp; done) | (simp; omega) | omega) : p := h
theorem Z2v1 {p : Prop} (h : p := by repeat (first | exact Below.refl _ _ | with_reducible assumption | refine Below.alloc ?_ (by first | exact Nat.le_refl _ | (simp; done) | (simp; omega) | omega) _ | refine Below.setCell ?_ (by first | exact Nat.le_refl _ | (simp; done) | (simp; omega) | omega) _ | refine Below.drew ?_ | refine bdrewN ?_ _)) : p := h
end Go.Proofs
namespace Go.Proofs.Ytdkbnbebioflaaa.Num
open Go.RowKit
set_option linter.unusedVariables false
set_option linter.unusedSimpArgs false

theorem Plus_of (p q r s : Int) (z : Int × Int × Bool) (w : World) (h : ∀ W, Calls Try.prog 61 #[RV p q, RV r s, .bool false] W fun e w' => e = .returned (RB z) ∧ Below W.heap.size W w') :
    Calls Try.prog 45 #[RV p q, RV r s] w fun e w' => e = .returned (RB z) ∧ Below w.heap.size w w' := by
  have H := Lib.hid h
  clear h
  obtain ⟨x, y, b⟩ := z
  go_enter Try.func45, Try.ntmps45
  go_wp2_with fail
  refine (H.out _).mono ?_
  rintro e w1 ⟨rfl, hb1⟩
  obtain ⟨g1, g2, g3⟩ := bgrow hb1
  have hbw : Below w.heap.size w w1 := by refine Below.trans ?_ (hb1.mono Z2v0); exact Z2v1
  have z0 : w1.cell? ⟨w.heap.size + 1 + 1, 0, none⟩ = some (.int .i64 0) := by rw [g1 _ _ Z2v0]; simp [go_sem]
  have z1 : w1.cell? ⟨w.heap.size + 1 + 1, 1, none⟩ = some (.int .i64 0) := by rw [g1 _ _ Z2v0]; simp [go_sem]
  go_wp2
  exact bodyPost_ret (v := RB (x, y, b)) (by simp [results, Try.results45, go_sem, z0, z1]) rfl ⟨rfl, Z2v1⟩

theorem Minus_of (p q r s : Int) (z : Int × Int × Bool) (w : World) (h : ∀ W, Calls Try.prog 61 #[RV p q, RV r s, .bool true] W fun e w' => e = .returned (RB z) ∧ Below W.heap.size W w') :
    Calls Try.prog 57 #[RV p q, RV r s] w fun e w' => e = .returned (RB z) ∧ Below w.heap.size w w' := by
  have H := Lib.hid h
  clear h
  obtain ⟨x, y, b⟩ := z
  go_enter Try.func57, Try.ntmps57
  go_wp2_with fail
  refine (H.out _).mono ?_
  rintro e w1 ⟨rfl, hb1⟩
  obtain ⟨g1, g2, g3⟩ := bgrow hb1
  have hbw : Below w.heap.size w w1 := by refine Below.trans ?_ (hb1.mono Z2v0); exact Z2v1
  have z0 : w1.cell? ⟨w.heap.size + 1 + 1, 0, none⟩ = some (.int .i64 0) := by rw [g1 _ _ Z2v0]; simp [go_sem]
  have z1 : w1.cell? ⟨w.heap.size + 1 + 1, 1, none⟩ = some (.int .i64 0) := by rw [g1 _ _ Z2v0]; simp [go_sem]
  go_wp2
  exact bodyPost_ret (v := RB (x, y, b)) (by simp [results, Try.results57, go_sem, z0, z1]) rfl ⟨rfl, Z2v1⟩

theorem cell_lt {W : World} {b o : Nat} {v : Value} (h : W.cell? ⟨b, o, none⟩ = some v) : b < W.heap.size := by
  by_cases hlt : b < W.heap.size
  · exact hlt
  · rw [World.cell?, Array.getElem?_eq_none (Nat.not_lt.1 hlt)] at h
    simp at h

end Go.Proofs.Ytdkbnbebioflaaa.Num
