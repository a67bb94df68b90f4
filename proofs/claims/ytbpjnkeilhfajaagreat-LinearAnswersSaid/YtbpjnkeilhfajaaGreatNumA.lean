/- Contracts of num's wide numbers: size, of, neg, int64, less, plus. -/
import Derived.Test.YtbpjnkeilhfajaaGreatChecked
import Derived.WalkKit
import Derived.Defers
import Derived.Recover
import Derived.Below
import Derived.OneCell
import Derived.KernelRfl
import Derived.Lib.Hide
import Derived.Shelf.Spec.BitsCarry
import Derived.Deep.Draws
import Derived.Deep.QuietTactic
import Derived.BigQuiet
import Derived.Deep.RegionHeld3
import Derived.RegionTactic
import Derived.StillTailTactics
import Derived.IntWalk
namespace Go.Proofs.YtbpjnkeilhfajaaGreat.Num
open Go.RowKit
set_option linter.unusedVariables false
set_option linter.unusedSimpArgs false
theorem bcell {W w1 : World} (hb : Below W.heap.size W w1) : (∀ b o, b < W.heap.size → w1.cell? ⟨b, o, none⟩ = W.cell? ⟨b, o, none⟩) ∧ (∀ b o, b < W.heap.size → w1.frozen? ⟨b, o, none⟩ = W.frozen? ⟨b, o, none⟩) :=
 ⟨fun b o h => hb.cell (p := ⟨b, o, none⟩) h, fun b o h => hb.frozen (p := ⟨b, o, none⟩) h⟩
theorem bdrewN {B : Nat} {a w : World} (h : Below B a w) (n : Nat) : Below B a (w.drewN n) := ⟨h.os, h.tape, h.output, h.size, h.block⟩
theorem run_large (w : World) : (Instr.panic (Value.iface 115 (Value.agg #[]))).run Tryz.prog w = .halt (.panic (Value.iface 115 (Value.agg #[]))) w := by kernel_rfl
def LargeP : List PanicEntry := [{ v := .iface 115 (.agg #[]), recovered := false }]
theorem ret_int {k : IntKind} {a b : Int} (h : a = b) : Ending.returned (.int k a) = Ending.returned (.int k b) := by rw [h]
def sz (a : Int) : Int := if a < 0 then -a else a
theorem sz_nonneg (a : Int) : 0 ≤ sz a := by unfold sz; split <;> omega
theorem sz_le {a : Int} (h : -9223372036854775808 ≤ a) (h2 : a < 9223372036854775808) : sz a ≤ 9223372036854775808 := by unfold sz; split <;> omega
theorem wrapu_neg {a : Int} (h : -9223372036854775808 ≤ a) (h2 : a < 0) : IntKind.u64.wrap (-(IntKind.u64.wrap a)) = sz a := by
 unfold sz
 simp only [IntKind.wrap, IntKind.signed, IntKind.bits]
 simp
 omega
theorem wrapi_neg {l : Int} (h : 0 ≤ l) (h2 : l ≤ 9223372036854775808) : wrap64 (IntKind.u64.wrap (-l)) = -l := by
 simp only [wrap64, IntKind.wrap, IntKind.signed, IntKind.bits]
 simp
 omega
theorem size_any (a : Int) (w : World) (h : -9223372036854775808 ≤ a) (h2 : a < 9223372036854775808) :
  Calls Tryz.prog 63 #[.int .i64 a] w fun e w' => e = .returned (.int .u64 (sz a)) ∧ w' = w := by
 by_cases hn : a < 0
 ·have e1 : decide (a < 0) = true := decide_eq_true hn
  have hv := wrapu_neg h hn
  have H := Lib.hid hv
  clear hv
  go_enter Tryz.func63, Tryz.ntmps63
  go_wp2
  go_ret
  exact ⟨ret_int H.out, rfl⟩
 ·have e1 : decide (a < 0) = false := decide_eq_false hn
  have hv : a = sz a := by unfold sz; rw [if_neg hn]
  have H := Lib.hid hv
  clear hv
  go_enter Tryz.func63, Tryz.ntmps63
  go_wp2
  go_ret
  exact ⟨ret_int H.out, rfl⟩
theorem int64_no (b : Bool) (h l : Int) (w : World) (hn : 0 < h ∨ 9223372036854775808 < l ∨ (l = 9223372036854775808 ∧ b = false)) :
  Calls Tryz.prog 103 #[.agg #[.bool b, .int .u64 h, .int .u64 l]] w fun e w' =>
   e = .panicked LargeP ∧ w' = w.alloc (.cells #[.bool b, .int .u64 h, .int .u64 l] 83) := by
 have hp := run_large
 by_cases h1 : 0 < h
 ·have e1 : decide (0 < h) = true := decide_eq_true h1
  clear hn
  go_enter Tryz.func103, Tryz.ntmps103
  go_wp2
  exact ⟨rfl, rfl, rfl⟩
 ·have e1 : decide (0 < h) = false := decide_eq_false h1
  by_cases h2 : 9223372036854775808 < l
  ·have e2 : decide (9223372036854775808 < l) = true := decide_eq_true h2
   clear hn
   go_enter Tryz.func103, Tryz.ntmps103
   go_wp2
   exact ⟨rfl, rfl, rfl⟩
  ·obtain ⟨rfl, rfl⟩ : l = 9223372036854775808 ∧ b = false := by
    rcases hn with hn | hn | hn
    ·exact absurd hn h1
    ·exact absurd hn h2
    ·exact hn
   clear hn h2
   go_enter Tryz.func103, Tryz.ntmps103
   go_wp2
   exact ⟨rfl, rfl, rfl⟩
theorem int64_yes (b : Bool) (l : Int) (w : World) (h0 : 0 ≤ l) (h1 : l ≤ 9223372036854775808) (h2 : l = 9223372036854775808 → b = true) :
  Calls Tryz.prog 103 #[.agg #[.bool b, .int .u64 0, .int .u64 l]] w fun e w' =>
   e = .returned (.int .i64 (if b = true then -l else l)) ∧ w' = w.alloc (.cells #[.bool b, .int .u64 0, .int .u64 l] 83) := by
 have e2 : decide (9223372036854775808 < l) = false := decide_eq_false (by omega)
 cases b with
 | false =>
  have hl : l ≠ 9223372036854775808 := fun h => by simpa using h2 h
  have e3 : (l == 9223372036854775808) = false := beq_eq_false_iff_ne.2 hl
  have hl2 : l < 9223372036854775808 := by omega
  clear h2 hl
  go_enter Tryz.func103, Tryz.ntmps103
  go_wp2
  go_ret
  exact ⟨rfl, rfl⟩
 | true =>
  clear h2
  have hv := wrapi_neg h0 h1
  have H := Lib.hid hv
  clear hv
  by_cases e : l = 9223372036854775808
  ·subst e
   go_enter Tryz.func103, Tryz.ntmps103
   go_wp2
   go_ret
   exact ⟨ret_int H.out, rfl⟩
  ·have e3 : (l == 9223372036854775808) = false := beq_eq_false_iff_ne.2 e
   clear e
   go_enter Tryz.func103, Tryz.ntmps103
   go_wp2
   go_ret
   exact ⟨ret_int H.out, rfl⟩
end Go.Proofs.YtbpjnkeilhfajaaGreat.Num
