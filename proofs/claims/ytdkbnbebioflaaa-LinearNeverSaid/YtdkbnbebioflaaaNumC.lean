/- Contracts of num's 'fits' and what it catches. -/
import Derived.Test.YtdkbnbebioflaaaNumB
namespace Go.Proofs
theorem Z290 {p : Prop} (h : p := by repeat (first | exact Below.refl _ _ | with_reducible assumption | refine Below.alloc ?_ (by first | exact Nat.le_refl _ | (simp; done) | (simp; omega) | omega) _ | refine Below.setCell ?_ (by first | exact Nat.le_refl _ | (simp; done) | (simp; omega) | omega) _ | refine Below.drew ?_ | refine bdrewN ?_ _)) : p := h
theorem Z291 {p : Prop} (h : p := by first | exact Nat.le_refl _ | (simp; done) | (simp; omega) | omega) : p := h
end Go.Proofs
namespace Go.Proofs.Ytdkbnbebioflaaa.Num
open Go.RowKit
set_option linter.unusedVariables false
set_option linter.unusedSimpArgs false

theorem assert_large (w : World) : (Instr.typeAssert (.iface 74 (.agg #[])) 20 74 true).run Try.prog w = .ok (.tuple #[.agg #[], .bool true]) w := by kernel_rfl

theorem catch64_panicking (p q : Nat) (x0 : Int) (y0 : Bool) (w : World) (hp : w.cell? ⟨p, 0, none⟩ = some (.int .i64 x0)) (hz : w.frozen? ⟨p, 0, none⟩ = false) (hq : w.cell? ⟨q, 0, none⟩ = some (.bool y0)) (hzq : w.frozen? ⟨q, 0, none⟩ = false) (hpq : p ≠ q) (hpl : p < w.heap.size) (hql : q < w.heap.size) :
    CallsD Try.prog 86 #[.pointer (some ⟨p, 0, none⟩), .pointer (some ⟨q, 0, none⟩)] (.panicking LargeP) w fun e u' w' =>
      e = .returned (.tuple #[]) ∧ u' = .panicking [{ v := .iface 74 (.agg #[]), recovered := true }] ∧ w' = ((w.setCell ⟨p, 0, none⟩ (.int .i64 0)).setCell ⟨q, 0, none⟩ (.bool false)).alloc (.cells #[] 74) := by
  have ht := assert_large
  unfold LargeP
  refine callsD_of_wpS Try.func86 rfl fun c₀ cs hu => ?_
  apply wpS_seq
  apply wpS_region
  simp [wpOpsS, go_sem, recoverD, hu, Try.ntmps86, Exit.thenS]
  refine wpS_of_wp ?_
  go_wp2
  simp [bodyPostS, results, Try.results86]

theorem catch64_idle (p q : Value) (w : World) :
    CallsD Try.prog 86 #[p, q] .returning w fun e u' w' => e = .returned (.tuple #[]) ∧ u' = .returning ∧ w' = w := by
  refine callsD_of_wpS Try.func86 rfl fun c₀ cs hu => ?_
  apply wpS_seq
  apply wpS_region
  simp [wpOpsS, go_sem, recoverD, hu, Try.ntmps86, Exit.thenS]
  refine wpS_of_wp ?_
  go_wp2
  cases c₀
  simp_all [bodyPostS, results, Try.results86]

theorem run_makeFunc (fn : Fn) (first cap : Array Value) (w : World) : (Instr.makeFunc fn first cap).run Try.prog w = .ok (.func fn first cap) w := rfl

theorem fits64_ok (g : Nat) (first : Array Value) (n : Int) (w : World) (hcf : ∀ W, (callFunc g first).run Try.prog W = .ok (.enter g first) W) (h : ∀ W, Below w.heap.size w W → Calls Try.prog g first W fun e W' => e = .returned (.int .i64 n) ∧ Below W.heap.size W W') :
    Calls Try.prog 80 #[.func (.func g) first #[]] w fun e w' => e = .returned (.tuple #[.int .i64 n, .bool true]) ∧ Below w.heap.size w w' := by
  have hmf := run_makeFunc
  have H := Lib.hid h
  clear h
  go_enter_defers Try.func80, Try.ntmps80
  go_wp2_with fail
  refine (H.out _ Z290).mono ?_
  rintro e w1 ⟨rfl, hb1⟩
  obtain ⟨hc, hf⟩ := bcell hb1
  have hz := hb1.size
  have c1 : w1.cell? ⟨w.heap.size, 0, none⟩ = some (.int .i64 0) := by rw [hc _ _ Z291]; simp [go_sem]
  have c2 : w1.cell? ⟨w.heap.size + 1, 0, none⟩ = some (.bool false) := by rw [hc _ _ Z291]; simp [go_sem]
  have f1 : w1.frozen? ⟨w.heap.size, 0, none⟩ = false := by rw [hf _ _ Z291]; simp [go_sem]
  have f2 : w1.frozen? ⟨w.heap.size + 1, 0, none⟩ = false := by rw [hf _ _ Z291]; simp [go_sem]
  have hb2 : Below w.heap.size w w1 := (((Below.refl _ _).alloc (Nat.le_refl _) _).alloc (by simp) _).trans (hb1.mono (by simp; omega))
  simp at hz
  clear hc hf hb1
  go_wp2
  refine leaves_cons (f := 86) (args := #[.pointer (some ⟨w.heap.size, 0, none⟩), .pointer (some ⟨w.heap.size + 1, 0, none⟩)]) (by simp) (by simp [go_sem]) ?_
  refine (catch64_idle _ _ _).mono ?_
  rintro e u' w'' ⟨rfl, rfl, rfl⟩
  simp [Leaves, settle, results, Try.results80, go_sem, c1, c2]
  exact (hb2.setCell (by simp) _).setCell (by simp) _

theorem fits64_no (g : Nat) (first : Array Value) (w : World) (hcf : ∀ W, (callFunc g first).run Try.prog W = .ok (.enter g first) W) (h : ∀ W, Below w.heap.size w W → Calls Try.prog g first W fun e W' => e = .panicked LargeP ∧ Below W.heap.size W W') :
    Calls Try.prog 80 #[.func (.func g) first #[]] w fun e w' => e = .returned (.tuple #[.int .i64 0, .bool false]) ∧ Below w.heap.size w w' := by
  have hmf := run_makeFunc
  have H := Lib.hid h
  clear h
  go_enter_defers Try.func80, Try.ntmps80
  go_wp2_with fail
  refine (H.out _ Z290).mono ?_
  rintro e w1 ⟨rfl, hb1⟩
  obtain ⟨hc, hf⟩ := bcell hb1
  have hz := hb1.size
  have c1 : w1.cell? ⟨w.heap.size, 0, none⟩ = some (.int .i64 0) := by rw [hc _ _ Z291]; simp [go_sem]
  have c2 : w1.cell? ⟨w.heap.size + 1, 0, none⟩ = some (.bool false) := by rw [hc _ _ Z291]; simp [go_sem]
  have f1 : w1.frozen? ⟨w.heap.size, 0, none⟩ = false := by rw [hf _ _ Z291]; simp [go_sem]
  have f2 : w1.frozen? ⟨w.heap.size + 1, 0, none⟩ = false := by rw [hf _ _ Z291]; simp [go_sem]
  have hb2 : Below w.heap.size w w1 := (((Below.refl _ _).alloc (Nat.le_refl _) _).alloc (by simp) _).trans (hb1.mono (by simp; omega))
  simp at hz
  clear hc hf hb1
  go_wp2
  refine leaves_cons (f := 86) (args := #[.pointer (some ⟨w.heap.size, 0, none⟩), .pointer (some ⟨w.heap.size + 1, 0, none⟩)]) (by simp) (by simp [go_sem]) ?_
  refine (catch64_panicking _ _ 0 false _ c1 f1 c2 f2 (by omega) (by omega) (by omega)).mono ?_
  rintro e u' w'' ⟨rfl, rfl, rfl⟩
  have k1 : w.heap.size < w1.heap.size := by omega
  have k2 : w.heap.size + 1 < w1.heap.size := by omega
  simp [Leaves, settle, results, Try.results80, go_sem, c1, c2, k1, k2]
  exact ((hb2.setCell (by simp) _).setCell (by simp) _).alloc (by simp; omega) _

end Go.Proofs.Ytdkbnbebioflaaa.Num
