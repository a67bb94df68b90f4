/- Contracts of linear: must, fits and what it catches, sign. -/
import Derived.Test.YtdkbnbebioflaaaNumF
namespace Go.Proofs
theorem Z160 {p : Prop} (h : p := by repeat (first | exact Below.refl _ _ | with_reducible assumption | refine Below.alloc ?_ (by first | exact Nat.le_refl _ | (simp; done) | (simp; omega) | omega) _ | refine Below.setCell ?_ (by first | exact Nat.le_refl _ | (simp; done) | (simp; omega) | omega) _ | refine Below.drew ?_ | refine bdrewN ?_ _)) : p := h
end Go.Proofs
namespace Go.Proofs.Ytdkbnbebioflaaa.Ln
open Go.RowKit Go.Proofs.Ytdkbnbebioflaaa.Num
set_option linter.unusedVariables false
set_option linter.unusedSimpArgs false

theorem run_largeL (w : World) : (Instr.panic (Value.iface 77 (Value.agg #[]))).run Try.prog w = .halt (.panic (Value.iface 77 (Value.agg #[]))) w := by kernel_rfl
/-- The panic of linear. -/
def LargeL : List PanicEntry := [{ v := .iface 77 (.agg #[]), recovered := false }]

/-- must[num.Rat], must[int64]: what fits. -/
theorem mustR_ok (p q : Int) (w : World) :
    Calls Try.prog 44 #[.agg #[.int .i64 p, .int .i64 q], .bool true] w fun e w' => e = .returned (.agg #[.int .i64 p, .int .i64 q]) ∧ Below w.heap.size w w' := by
  go_enter Try.func44, Try.ntmps44
  go_wp2
  simp [bodyPost, results, Try.results44, go_sem]
  exact Z160
theorem mustR_no (p q : Int) (w : World) :
    Calls Try.prog 44 #[.agg #[.int .i64 p, .int .i64 q], .bool false] w fun e w' => e = .panicked LargeL ∧ Below w.heap.size w w' := by
  have hp := run_largeL
  go_enter Try.func44, Try.ntmps44
  go_wp2
  exact ⟨rfl, rfl, Z160⟩
theorem must64_ok (p : Int) (w : World) :
    Calls Try.prog 50 #[.int .i64 p, .bool true] w fun e w' => e = .returned (.int .i64 p) ∧ w' = w := by
  go_enter Try.func50, Try.ntmps50
  go_wp2
  go_ret
  exact ⟨rfl, rfl⟩
theorem must64_no (p : Int) (w : World) :
    Calls Try.prog 50 #[.int .i64 p, .bool false] w fun e w' => e = .panicked LargeL ∧ w' = w := by
  have hp := run_largeL
  go_enter Try.func50, Try.ntmps50
  go_wp2
  exact ⟨rfl, rfl, rfl⟩

/-- What may have turned: blocks of S, and what is new. -/
structure Fp (S : Nat → Prop) (w w' : World) : Prop where
  os : w'.os = w.os
  tape : w'.tape = w.tape
  output : w'.output = w.output
  size : w.heap.size ≤ w'.heap.size
  block : ∀ k, k < w.heap.size → ¬ S k → w'.heap[k]? = w.heap[k]?
namespace Fp
variable {S T : Nat → Prop} {w w' w'' : World}
theorem refl (S : Nat → Prop) (w : World) : Fp S w w := ⟨rfl, rfl, rfl, Nat.le_refl _, fun _ _ _ => rfl⟩
theorem trans (h : Fp S w w') (k : Fp T w' w'') (hT : ∀ i, i < w.heap.size → T i → S i) : Fp S w w'' :=
  ⟨k.os.trans h.os, k.tape.trans h.tape, k.output.trans h.output, Nat.le_trans h.size k.size, fun i hi hn => (k.block i (Nat.lt_of_lt_of_le hi h.size) (fun t => hn (hT i hi t))).trans (h.block i hi hn)⟩
theorem tr (h : Fp S w w') (k : Fp S w' w'') : Fp S w w'' := h.trans k fun _ _ h => h
theorem imp (h : Fp S w w') (hT : ∀ i, i < w.heap.size → S i → T i) : Fp T w w' := ⟨h.os, h.tape, h.output, h.size, fun i hi hn => h.block i hi fun t => hn (hT i hi t)⟩
theorem of_below (h : Below w.heap.size w w') : Fp S w w' := ⟨h.os, h.tape, h.output, h.size, fun k hk _ => h.block k hk⟩
theorem below (h : Fp S w w') {b : Nat} (hb : b ≤ w.heap.size) (hS : ∀ i, i < b → ¬ S i) : Below b w w' := ⟨h.os, h.tape, h.output, h.size, fun k hk => h.block k (Nat.lt_of_lt_of_le hk hb) (hS k hk)⟩
theorem alloc (h : Fp S w w') (o : Obj) : Fp S w (w'.alloc o) := h.trans (of_below (S := S) ((Below.refl _ _).alloc (Nat.le_refl _) _)) fun _ _ h => h
theorem setCell (h : Fp S w w') {a : Addr} (ha : a.block < w.heap.size → S a.block) (v : Value) : Fp S w (w'.setCell a v) :=
  h.trans (T := fun k => k = a.block) ⟨rfl, rfl, rfl, by simp, fun k hk hn => Below.heap_setCell w' a v k hn⟩ (by rintro i hi rfl; exact ha hi)
theorem drewN (h : Fp S w w') (n : Nat) : Fp S w (w'.drewN n) := ⟨h.os, h.tape, h.output, h.size, h.block⟩
end Fp

theorem assert_largeL (w : World) : (Instr.typeAssert (.iface 77 (.agg #[])) 20 77 true).run Try.prog w = .ok (.tuple #[.agg #[], .bool true]) w := by kernel_rfl

set_option maxHeartbeats 4000000 in
theorem catch_panicking (q : Nat) (y0 : Bool) (w : World) (hq : w.cell? ⟨q, 0, none⟩ = some (.bool y0)) (hzq : w.frozen? ⟨q, 0, none⟩ = false) (hql : q < w.heap.size) :
    CallsD Try.prog 42 #[.pointer (some ⟨q, 0, none⟩)] (.panicking LargeL) w fun e u' w' =>
      e = .returned (.tuple #[]) ∧ u' = .panicking [{ v := .iface 77 (.agg #[]), recovered := true }] ∧ w' = (w.setCell ⟨q, 0, none⟩ (.bool false)).alloc (.cells #[] 77) := by
  have ht := assert_largeL
  unfold LargeL
  refine callsD_of_wpS Try.func42 rfl fun c₀ cs hu => ?_
  apply wpS_seq
  apply wpS_region
  simp [wpOpsS, go_sem, recoverD, hu, Try.ntmps42, Exit.thenS]
  refine wpS_of_wp ?_
  go_wp2
  simp [bodyPostS, results, Try.results42]

theorem catch_idle (q : Value) (w : World) :
    CallsD Try.prog 42 #[q] .returning w fun e u' w' => e = .returned (.tuple #[]) ∧ u' = .returning ∧ w' = w := by
  refine callsD_of_wpS Try.func42 rfl fun c₀ cs hu => ?_
  apply wpS_seq
  apply wpS_region
  simp [wpOpsS, go_sem, recoverD, hu, Try.ntmps42, Exit.thenS]
  refine wpS_of_wp ?_
  go_wp2
  cases c₀
  simp_all [bodyPostS, results, Try.results42]

theorem fits_ok (g : Nat) (cap : Array Value) (S : Nat → Prop) (Q : World → Prop) (w : World) (hS : ∀ k, S k → k < w.heap.size) (hcf : ∀ W, (callFunc g cap).run Try.prog W = .ok (.enter g cap) W)
    (h : ∀ W, Below w.heap.size w W → Calls Try.prog g cap W fun e W' => e = .returned (.tuple #[]) ∧ Fp S W W' ∧ Q W') :
    Calls Try.prog 20 #[.func (.func g) #[] cap] w fun e w' => e = .returned (.bool true) ∧ Fp S w w' ∧ ∃ W', Q W' ∧ W'.heap.size ≤ w'.heap.size ∧ ∀ k, k < W'.heap.size → k ≠ w.heap.size → w'.heap[k]? = W'.heap[k]? := by
  have hmf := run_makeFunc
  have H := Lib.hid h
  have HS := Lib.hid hS
  clear h hS
  go_enter_defers Try.func20, Try.ntmps20
  go_wp2_with fail
  refine (H.out _ Z160).mono ?_
  rintro e w1 ⟨rfl, hb1, hQ⟩
  have hz := hb1.size
  simp at hz
  have hblk : w1.heap[w.heap.size]? = some (.cells #[.bool false] 4 (0, 0)) := by
    rw [hb1.block _ (by simp) (fun hk => by have := HS.out _ hk; omega)]; exact heap_alloc_new w _
  have c2 : w1.cell? ⟨w.heap.size, 0, none⟩ = some (.bool false) := by simp [World.cell?, hblk]
  have f2 : w1.frozen? ⟨w.heap.size, 0, none⟩ = false := by simp [World.frozen?, hblk]
  have hb2 : Fp S w w1 := ((Fp.refl S w).alloc _).tr hb1
  have hb3 := Lib.hid (show Fp S w w1 ∧ Q w1 from ⟨hb2, hQ⟩)
  clear hb1 hb2 hQ hblk
  go_wp2
  refine leaves_cons (f := 42) (args := #[.pointer (some ⟨w.heap.size, 0, none⟩)]) (by simp) (by simp [go_sem]) ?_
  refine (catch_idle _ _).mono ?_
  rintro e u' w'' ⟨rfl, rfl, rfl⟩
  obtain ⟨hb2, hQ⟩ := hb3.out
  have k1 : w.heap.size < w1.heap.size := by omega
  simp [Leaves, settle, results, Try.results20, go_sem, c2, k1]
  exact ⟨hb2.setCell (by simp) _, w1, hQ, by simp, fun k hk hne => Below.heap_setCell _ ⟨w.heap.size, 0, none⟩ _ k hne⟩

theorem fits_no (g : Nat) (cap : Array Value) (S : Nat → Prop) (Q : World → Prop) (w : World) (hS : ∀ k, S k → k < w.heap.size) (hcf : ∀ W, (callFunc g cap).run Try.prog W = .ok (.enter g cap) W)
    (h : ∀ W, Below w.heap.size w W → Calls Try.prog g cap W fun e W' => e = .panicked LargeL ∧ Fp S W W' ∧ Q W') :
    Calls Try.prog 20 #[.func (.func g) #[] cap] w fun e w' => e = .returned (.bool false) ∧ Fp S w w' ∧ ∃ W', Q W' ∧ W'.heap.size ≤ w'.heap.size ∧ ∀ k, k < W'.heap.size → k ≠ w.heap.size → w'.heap[k]? = W'.heap[k]? := by
  have hmf := run_makeFunc
  have H := Lib.hid h
  have HS := Lib.hid hS
  clear h hS
  go_enter_defers Try.func20, Try.ntmps20
  go_wp2_with fail
  refine (H.out _ Z160).mono ?_
  rintro e w1 ⟨rfl, hb1, hQ⟩
  have hz := hb1.size
  simp at hz
  have hblk : w1.heap[w.heap.size]? = some (.cells #[.bool false] 4 (0, 0)) := by
    rw [hb1.block _ (by simp) (fun hk => by have := HS.out _ hk; omega)]; exact heap_alloc_new w _
  have c2 : w1.cell? ⟨w.heap.size, 0, none⟩ = some (.bool false) := by simp [World.cell?, hblk]
  have f2 : w1.frozen? ⟨w.heap.size, 0, none⟩ = false := by simp [World.frozen?, hblk]
  have hb2 : Fp S w w1 := ((Fp.refl S w).alloc _).tr hb1
  have hb3 := Lib.hid (show Fp S w w1 ∧ Q w1 from ⟨hb2, hQ⟩)
  clear hb1 hb2 hQ hblk
  go_wp2
  refine leaves_cons (f := 42) (args := #[.pointer (some ⟨w.heap.size, 0, none⟩)]) (by simp) (by simp [go_sem]) ?_
  refine (catch_panicking _ false _ c2 f2 (by omega)).mono ?_
  rintro e u' w'' ⟨rfl, rfl, rfl⟩
  obtain ⟨hb2, hQ⟩ := hb3.out
  have k1 : w.heap.size < w1.heap.size := by omega
  simp [Leaves, settle, results, Try.results20, go_sem, c2, k1]
  exact ⟨(hb2.setCell (by simp) _).alloc _, w1, hQ, by simp, fun k hk hne => (Below.heap_alloc _ _ _ (by simp; omega)).trans (Below.heap_setCell _ ⟨w.heap.size, 0, none⟩ _ k hne)⟩

end Go.Proofs.Ytdkbnbebioflaaa.Ln
