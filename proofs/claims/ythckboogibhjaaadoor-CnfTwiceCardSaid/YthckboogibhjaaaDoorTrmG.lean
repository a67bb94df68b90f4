/- cnf.joins. -/
import Derived.Test.YthckboogibhjaaaDoorTrmF
namespace Go.Proofs.YthckboogibhjaaaDoor.Trm
set_option linter.unusedVariables false
set_option linter.unusedSimpArgs false
open Go.RowKit Go.Proofs.YthckboogibhjaaaDoorW.PrintWords Go.Proofs.YthckboogibhjaaaDoorW.PrintMore

/-- An operation joins bools. -/
def joinsB (op : Int) : Bool := decide (16 ≤ op) && decide (op ≤ 21)

theorem joins_eq (op : Int) : (op == 16 || op == 17 || op == 18 || op == 19 || op == 20 || op == 21) = joinsB op := by
  unfold joinsB
  rw [Bool.eq_iff_iff]
  simp
  omega

set_option maxHeartbeats 4000000 in
theorem joins_any (op : Int) (w : World) : Calls Tryd.prog 25 #[.int .i64 op] w fun e w' => e = .returned (.bool (joinsB op)) ∧ w' = w := by
  go_enter Tryd.func25, Tryd.ntmps25
  go_wp2
  all_goals (refine bodyPost_ret (v := .bool (joinsB op)) (by first | (simp [results, Tryd.results25, go_sem, joinsB, *]; done) | (simp [results, Tryd.results25, go_sem]; exact joins_eq op)) rfl ⟨rfl, rfl⟩)
end Go.Proofs.YthckboogibhjaaaDoor.Trm
