/- The same of 'fits' at rats. -/
import Derived.Test.YtdkbnbebioflaaaNumC
namespace Go.Proofs
theorem Z2a0 {p : Prop} (h : p := by repeat (first | exact Below.refl _ _ | with_reducible assumption | refine Below.alloc ?_ (by first | exact Nat.le_refl _ | (simp; done) | (simp; omega) | omega) _ | refine Below.setCell ?_ (by first | exact Nat.le_refl _ | (simp; done) | (simp; omega) | omega) _ | refine Below.drew ?_ | refine bdrewN ?_ _)) : p := h
theorem Z2a1 {p : Prop} (h : p := by first | exact Nat.le_refl _ | (simp; done) | (simp; omega) | omega) : p := h
end Go.Proofs
namespace Go.Proofs.Ytdkbnbebioflaaa.Num
open Go.RowKit
set_option linter.unusedVariables false
set_option linter.unusedSimpArgs false

theorem catchR_panicking (p q : Nat) (x0 x1 : Int) (y0 : Bool) (w : World) (hp : w.cell? ⟨p, 0, none⟩ = some (.int .i64 x0)) (hp1 : w.cell? ⟨p, 1, none⟩ = some (.int .i64 x1)) (hz1 : w.frozen? ⟨p, 1, none⟩ = false) (hz : w.frozen? ⟨p, 0, none⟩ = false) (hq : w.cell? ⟨q, 0, none⟩ = some (.bool y0)) (hzq : w.frozen? ⟨q, 0, none⟩ = false) (hpq : p ≠ q) (hpl : p < w.heap.size) (hql : q < w.heap.size) :
    CallsD Try.prog 39 #[.pointer (some ⟨p, 0, none⟩), .pointer (some ⟨q, 0, none⟩)] (.panicking LargeP) w fun e u' w' =>
      e = .returned (.tuple #[]) ∧ u' = .panicking [{ v := .iface 74 (.agg #[]), recovered := true }] ∧ w' = ((((w.setCell ⟨p, 0, none⟩ (.int .i64 0)).setCell ⟨p, 1, none⟩ (.int .i64 0)).setCell ⟨q, 0, none⟩ (.bool false)).alloc (.cells #[] 74)).alloc (.cells #[.int .i64 0, .int .i64 0] 29) := by
  have ht := assert_large
  unfold LargeP
  refine callsD_of_wpS Try.func39 rfl fun c₀ cs hu => ?_
  apply wpS_seq
  apply wpS_region
  simp [wpOpsS, go_sem, recoverD, hu, Try.ntmps39, Exit.thenS]
  refine wpS_of_wp ?_
  go_wp2
  simp [bodyPostS, results, Try.results39]

theorem catchR_idle (p q : Value) (w : World) :
    CallsD Try.prog 39 #[p, q] .returning w fun e u' w' => e = .returned (.tuple #[]) ∧ u' = .returning ∧ w' = w := by
  refine callsD_of_wpS Try.func39 rfl fun c₀ cs hu => ?_
  apply wpS_seq
  apply wpS_region
  simp [wpOpsS, go_sem, recoverD, hu, Try.ntmps39, Exit.thenS]
  refine wpS_of_wp ?_
  go_wp2
  cases c₀
  simp_all [bodyPostS, results, Try.results39]

theorem fitsR_ok (g : Nat) (first : Array Value) (n m : Int) (w : World) (hcf : ∀ W, (callFunc g first).run Try.prog W = .ok (.enter g first) W) (h : ∀ W, Below w.heap.size w W → Calls Try.prog g first W fun e W' => e = .returned (.agg #[.int .i64 n, .int .i64 m]) ∧ Below W.heap.size W W') :
    Calls Try.prog 12 #[.func (.func g) #[] first] w fun e w' => e = .returned (.tuple #[.agg #[.int .i64 n, .int .i64 m], .bool true]) ∧ Below w.heap.size w w' := by
  have hmf := run_makeFunc
  have H := Lib.hid h
  clear h
  go_enter_defers Try.func12, Try.ntmps12
  go_wp2_with fail
  refine (H.out _ Z2a0).mono ?_
  rintro e w1 ⟨rfl, hb1⟩
  obtain ⟨hc, hf⟩ := bcell hb1
  have hz := hb1.size
  have c1 : w1.cell? ⟨w.heap.size, 0, none⟩ = some (.int .i64 0) := by rw [hc _ _ Z2a1]; simp [go_sem]
  have c11 : w1.cell? ⟨w.heap.size, 1, none⟩ = some (.int .i64 0) := by rw [hc _ _ Z2a1]; simp [go_sem]
  have f11 : w1.frozen? ⟨w.heap.size, 1, none⟩ = false := by rw [hf _ _ Z2a1]; simp [go_sem]
  have c2 : w1.cell? ⟨w.heap.size + 1, 0, none⟩ = some (.bool false) := by rw [hc _ _ Z2a1]; simp [go_sem]
  have f1 : w1.frozen? ⟨w.heap.size, 0, none⟩ = false := by rw [hf _ _ Z2a1]; simp [go_sem]
  have f2 : w1.frozen? ⟨w.heap.size + 1, 0, none⟩ = false := by rw [hf _ _ Z2a1]; simp [go_sem]
  have hb2 : Below w.heap.size w w1 := (((Below.refl _ _).alloc (Nat.le_refl _) _).alloc (by simp) _).trans (hb1.mono (by simp; omega))
  simp at hz
  clear hc hf hb1
  go_wp2
  refine leaves_cons (f := 39) (args := #[.pointer (some ⟨w.heap.size, 0, none⟩), .pointer (some ⟨w.heap.size + 1, 0, none⟩)]) (by simp) (by simp [go_sem]) ?_
  refine (catchR_idle _ _ _).mono ?_
  rintro e u' w'' ⟨rfl, rfl, rfl⟩
  simp [Leaves, settle, results, Try.results12, go_sem, c1, c11, c2]
  exact ((hb2.setCell (by simp) _).setCell (by simp) _).setCell (by simp) _

theorem fitsR_no (g : Nat) (first : Array Value) (w : World) (hcf : ∀ W, (callFunc g first).run Try.prog W = .ok (.enter g first) W) (h : ∀ W, Below w.heap.size w W → Calls Try.prog g first W fun e W' => e = .panicked LargeP ∧ Below W.heap.size W W') :
    Calls Try.prog 12 #[.func (.func g) #[] first] w fun e w' => e = .returned (.tuple #[.agg #[.int .i64 0, .int .i64 0], .bool false]) ∧ Below w.heap.size w w' := by
  have hmf := run_makeFunc
  have H := Lib.hid h
  clear h
  go_enter_defers Try.func12, Try.ntmps12
  go_wp2_with fail
  refine (H.out _ Z2a0).mono ?_
  rintro e w1 ⟨rfl, hb1⟩
  obtain ⟨hc, hf⟩ := bcell hb1
  have hz := hb1.size
  have c1 : w1.cell? ⟨w.heap.size, 0, none⟩ = some (.int .i64 0) := by rw [hc _ _ Z2a1]; simp [go_sem]
  have c11 : w1.cell? ⟨w.heap.size, 1, none⟩ = some (.int .i64 0) := by rw [hc _ _ Z2a1]; simp [go_sem]
  have f11 : w1.frozen? ⟨w.heap.size, 1, none⟩ = false := by rw [hf _ _ Z2a1]; simp [go_sem]
  have c2 : w1.cell? ⟨w.heap.size + 1, 0, none⟩ = some (.bool false) := by rw [hc _ _ Z2a1]; simp [go_sem]
  have f1 : w1.frozen? ⟨w.heap.size, 0, none⟩ = false := by rw [hf _ _ Z2a1]; simp [go_sem]
  have f2 : w1.frozen? ⟨w.heap.size + 1, 0, none⟩ = false := by rw [hf _ _ Z2a1]; simp [go_sem]
  have hb2 : Below w.heap.size w w1 := (((Below.refl _ _).alloc (Nat.le_refl _) _).alloc (by simp) _).trans (hb1.mono (by simp; omega))
  simp at hz
  clear hc hf hb1
  go_wp2
  refine leaves_cons (f := 39) (args := #[.pointer (some ⟨w.heap.size, 0, none⟩), .pointer (some ⟨w.heap.size + 1, 0, none⟩)]) (by simp) (by simp [go_sem]) ?_
  refine (catchR_panicking _ _ 0 0 false _ c1 c11 f11 f1 c2 f2 (by omega) (by omega) (by omega)).mono ?_
  rintro e u' w'' ⟨rfl, rfl, rfl⟩
  have k1 : w.heap.size < w1.heap.size := by omega
  have k2 : w.heap.size + 1 < w1.heap.size := by omega
  simp [Leaves, settle, results, Try.results12, go_sem, c1, c11, c2, k1, k2]
  exact ((((hb2.setCell (by simp) _).setCell (by simp) _).setCell (by simp) _).alloc (by simp; omega) _).alloc (by simp; omega) _

end Go.Proofs.Ytdkbnbebioflaaa.Num
