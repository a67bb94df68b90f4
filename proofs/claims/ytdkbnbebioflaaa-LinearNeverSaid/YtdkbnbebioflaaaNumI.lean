/- Contracts of num: Make. -/
import Derived.Test.YtdkbnbebioflaaaNumH
namespace Go.Proofs
theorem Z2i0 {p : Prop} (h : p := by repeat (first | exact Below.refl _ _ | with_reducible assumption | refine Below.alloc ?_ (by first | exact Nat.le_refl _ | (simp; done) | (simp; omega) | omega) _ | refine Below.setCell ?_ (by first | exact Nat.le_refl _ | (simp; done) | (simp; omega) | omega) _ | refine Below.drew ?_ | refine bdrewN ?_ _)) : p := h
theorem Z2i1 {p : Prop} (h : p := by first | exact Nat.le_refl _ | (simp; done) | (simp; omega) | omega) : p := h
end Go.Proofs
namespace Go.Proofs.Ytdkbnbebioflaaa.Num
open Go.RowKit
set_option linter.unusedVariables false
set_option linter.unusedSimpArgs false

instance (a : Int) : Decidable (In64 a) := inferInstanceAs (Decidable (_ ∧ _))

/-- The right rat that is p / q, and whether it fits. -/
def mk (p q : Int) : Int × Int × Bool := if q = 0 then (0, 0, false) else if In64 (lowP p q) ∧ In64 (lowQ p q) then (lowP p q, lowQ p q, true) else (0, 0, false)

@[reducible, go_sem] def RB (r : Int × Int × Bool) : Value := .tuple #[RV r.1 r.2.1, .bool r.2.2]

theorem cf_make1 (args : Array Value) (w : World) : (callFunc 13 args).run Try.prog w = .ok (.enter 13 args) w := by kernel_rfl

set_option maxHeartbeats 1000000 in
theorem Make_any (p q : Int) (w : World) (hp : In64 p) (hq : In64 q) :
    Calls Try.prog 8 #[.int .i64 p, .int .i64 q] w fun e w' => e = .returned (RB (mk p q)) ∧ Below w.heap.size w w' := by
  have hmf := run_makeFunc
  by_cases h0 : q = 0
  · subst h0
    have hm : mk p 0 = (0, 0, false) := if_pos rfl
    rw [hm]
    clear hm
    go_enter Try.func8, Try.ntmps8
    go_wp2
    exact bodyPost_ret (v := RB (0, 0, false)) (by simp [results, Try.results8, go_sem, RB]) rfl ⟨rfl, Z2i0⟩
  · have e0 : (q == 0) = false := beq_eq_false_iff_ne.2 h0
    by_cases hPQ : In64 (lowP p q) ∧ In64 (lowQ p q)
    · have hm : mk p q = (lowP p q, lowQ p q, true) := by unfold mk; rw [if_neg h0, if_pos hPQ]
      rw [hm]
      clear hm
      have ff := Lib.hid (fun (W0 : World) (b c : Nat) (hb : W0.cell? ⟨b, 0, none⟩ = some (.int .i64 p)) (hc : W0.cell? ⟨c, 0, none⟩ = some (.int .i64 q)) (bl : b < W0.heap.size) (cl : c < W0.heap.size) =>
        fitsR_ok 13 #[.pointer (some ⟨b, 0, none⟩), .pointer (some ⟨c, 0, none⟩)] (lowP p q) (lowQ p q) W0 (cf_make1 _) (fun W1 hW => make1_ok p q b c W1 hp hq h0 (keepcell hW hb) (keepcell hW hc) (Nat.lt_of_lt_of_le bl hW.size) (Nat.lt_of_lt_of_le cl hW.size) hPQ.1 hPQ.2))
      clear h0 hPQ
      go_enter Try.func8, Try.ntmps8
      go_wp2_with fail
      refine (ff.out _ _ _ (by simp [go_sem]) (by simp [go_sem]) Z2i1 Z2i1).mono ?_
      rintro e w1 ⟨rfl, hb1⟩
      obtain ⟨g1, g2, g3⟩ := bgrow hb1
      have hbw : Below w.heap.size w w1 := by refine Below.trans ?_ (hb1.mono Z2i1); exact Z2i0
      have k0 : w1.cell? ⟨w.heap.size + 1 + 1, 0, none⟩ = some (.int .i64 0) := by rw [g1 _ _ Z2i1]; simp [go_sem]
      have k1 : w1.cell? ⟨w.heap.size + 1 + 1, 1, none⟩ = some (.int .i64 0) := by rw [g1 _ _ Z2i1]; simp [go_sem]
      go_wp2
      exact bodyPost_ret (v := RB (lowP p q, lowQ p q, true)) (by simp [results, Try.results8, go_sem, RB, k0, k1]) rfl ⟨rfl, Z2i0⟩
    · have hm : mk p q = (0, 0, false) := by unfold mk; rw [if_neg h0, if_neg hPQ]
      rw [hm]
      clear hm
      have ff := Lib.hid (fun (W0 : World) (b c : Nat) (hb : W0.cell? ⟨b, 0, none⟩ = some (.int .i64 p)) (hc : W0.cell? ⟨c, 0, none⟩ = some (.int .i64 q)) (bl : b < W0.heap.size) (cl : c < W0.heap.size) =>
        fitsR_no 13 #[.pointer (some ⟨b, 0, none⟩), .pointer (some ⟨c, 0, none⟩)] W0 (cf_make1 _) (fun W1 hW => make1_no p q b c W1 hp hq h0 (keepcell hW hb) (keepcell hW hc) (Nat.lt_of_lt_of_le bl hW.size) (Nat.lt_of_lt_of_le cl hW.size) hPQ))
      clear h0 hPQ
      go_enter Try.func8, Try.ntmps8
      go_wp2_with fail
      refine (ff.out _ _ _ (by simp [go_sem]) (by simp [go_sem]) Z2i1 Z2i1).mono ?_
      rintro e w1 ⟨rfl, hb1⟩
      obtain ⟨g1, g2, g3⟩ := bgrow hb1
      have hbw : Below w.heap.size w w1 := by refine Below.trans ?_ (hb1.mono Z2i1); exact Z2i0
      have k0 : w1.cell? ⟨w.heap.size + 1 + 1, 0, none⟩ = some (.int .i64 0) := by rw [g1 _ _ Z2i1]; simp [go_sem]
      have k1 : w1.cell? ⟨w.heap.size + 1 + 1, 1, none⟩ = some (.int .i64 0) := by rw [g1 _ _ Z2i1]; simp [go_sem]
      go_wp2
      exact bodyPost_ret (v := RB (0, 0, false)) (by simp [results, Try.results8, go_sem, RB, k0, k1]) rfl ⟨rfl, Z2i0⟩
end Go.Proofs.Ytdkbnbebioflaaa.Num
