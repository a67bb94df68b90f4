/- linear.CheckFarkas's closures. -/
import Derived.Test.YtdkbnbebioflaaaLnG
namespace Go.Proofs
theorem Z1i0 {p : Prop} (h : p := by repeat (first | exact Below.refl _ _ | with_reducible assumption | refine Below.alloc ?_ (by first | exact Nat.le_refl _ | (simp; done) | (simp; omega) | omega) _ | refine Below.setCell ?_ (by first | exact Nat.le_refl _ | (simp; done) | (simp; omega) | omega) _ | refine Below.drew ?_ | refine bdrewN ?_ _)) : p := h
end Go.Proofs
namespace Go.Proofs.Ytdkbnbebioflaaa.Ln
open Go.RowKit Go.Proofs.Ytdkbnbebioflaaa.Num Go.Proofs.Ytdkbnbebioflaaa.Given Go.Proofs.Ytdkbnbebioflaaa.Lin Go.Proofs.YtdkbnbebioflaaaW.PrintWords
set_option linter.unusedVariables false
set_option linter.unusedSimpArgs false

theorem farkas1_any (x : Int) (w : World) : Calls Try.prog 23 #[.int .i64 x] w fun e w' => e = .returned (.bool (decide (x < 0))) ∧ Below w.heap.size w w' := by
  go_enter Try.func23, Try.ntmps23
  go_wp2
  go_ret
  exact ⟨rfl, Below.refl _ _⟩
theorem farkas2_any (x : S38) (B : Option Addr) (d : Nat) (nb n : Nat) (w : World) (hn : w.cell? ⟨nb, 0, none⟩ = some (.int .i64 n)) :
    Calls Try.prog 26 #[.agg #[.slice B x.f0.length d, .int .i64 x.f1], .pointer (some ⟨nb, 0, none⟩)] w fun e w' => e = .returned (.bool (!((x.f0.length : Int) == (n : Int)))) ∧ Below w.heap.size w w' := by
  have zn := World.block_lt_of_cell? w _ hn
  simp only at zn
  go_enter Try.func26, Try.ntmps26
  go_wp2
  go_ret
  exact ⟨rfl, Z1i0⟩
theorem may1_any (x : S38) (B : Option Addr) (d : Nat) (nb : Nat) (n : Int) (w : World) (hn : w.cell? ⟨nb, 0, none⟩ = some (.int .i64 n)) :
    Calls Try.prog 53 #[.agg #[.slice B x.f0.length d, .int .i64 x.f1], .pointer (some ⟨nb, 0, none⟩)] w fun e w' => e = .returned (.bool (!((x.f0.length : Int) == n))) ∧ Below w.heap.size w w' := by
  have zn := World.block_lt_of_cell? w _ hn
  simp only at zn
  go_enter Try.func53, Try.ntmps53
  go_wp2
  go_ret
  exact ⟨rfl, Z1i0⟩
theorem farkas32_any (x : S38) (B : Option Addr) (d : Nat) (w : World) :
    Calls Try.prog 30 #[.agg #[.slice B x.f0.length d, .int .i64 x.f1]] w fun e w' => e = .returned (.int .i64 x.f1) ∧ Below w.heap.size w w' := by
  go_enter Try.func30, Try.ntmps30
  go_wp2
  go_ret
  exact ⟨rfl, Z1i0⟩
theorem farkas31_any (x : S38) (B : Option Addr) (d : Nat) (ib i : Nat) (w0 w : World) (hC : (Kd.int .i64).C w0 B x.f0.length x.f0) (hd : x.f0.length ≤ d) (hB : Below w0.heap.size w0 w) (hi : i < x.f0.length) (hn : w.cell? ⟨ib, 0, none⟩ = some (.int .i64 i)) :
    Calls Try.prog 29 #[.agg #[.slice B x.f0.length d, .int .i64 x.f1], .pointer (some ⟨ib, 0, none⟩)] w fun e w' => e = .returned (.int .i64 (x.f0.getD i 0)) ∧ Below w.heap.size w w' := by
  have zn := World.block_lt_of_cell? w _ hn
  simp only at zn
  obtain ⟨ad, e, x0⟩ := el_I hC hi
  have hg : x.f0.getD i 0 = x.f0[i] := by simp [List.getElem?_eq_getElem hi]
  rw [hg]
  have zx := World.block_lt_of_cell? w0 _ x0
  have zw := hB.size
  generalize x.f0[i] = y at *
  replace x0 := (hB.cell (World.block_lt_of_cell? w0 _ x0)).trans x0
  have zx2 : (ad.add i).block < w.heap.size := by omega
  subst e
  clear hB zx zw hg
  go_enter Try.func29, Try.ntmps29
  go_wp2
  go_ret
  exact ⟨rfl, Z1i0⟩

end Go.Proofs.Ytdkbnbebioflaaa.Ln
