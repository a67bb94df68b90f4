/- What a row of this seat lists on the library's variables is what lex wants of them. -/
import Derived.Test.YtnegkabafigfnaaDoorLexGiven
import Derived.Test.YtnegkabafigfnaaDoorRows
import Derived.Stop.LaidErr
import Derived.Lib.LaidTab
import Derived.LaidLaws
import Derived.MakeChecks
namespace Go.Proofs.YtnegkabafigfnaaDoor.Lex
open Go.RowKit Go.Shelf
set_option linter.unusedVariables false

theorem gPow : Tryd.prog.globalNamed "internal/strconv.uint64pow10" = some 3 := by kernel_rfl
theorem gRange : Tryd.prog.globalNamed "strconv.ErrRange" = some 2 := by kernel_rfl
theorem gSyntax : Tryd.prog.globalNamed "strconv.ErrSyntax" = some 1 := by kernel_rfl
theorem star : "*" ++ "errors.errorString" = "*errors.errorString" := by decide
theorem rowE (u : TypeId) (h : Tryd.prog.typeName? 3 u = some "*errors.errorString") : u = 111 :=
  typeName_ptr_named (nm := "errors.errorString") (by rw [star]; kernel_rfl) (by kernel_rfl) (by decide) u (by rw [star]; exact h)

theorem good_of_laid {W : World} (h : laidMet Tryd.prog Rows.lexTellsRow.laid W) : LexGood W := by
  have h3 := h.tail.tail
  have h5 := h3.tail.tail
  have h6 := h5.tail
  obtain ⟨a1, s1, hv1, -⟩ := laid_sentinel h5 gRange rfl Tryd.underlying50 rowE Tryd.underlying111 Tryd.underlying113 rfl rfl Tryd.underlying9 (by kernel_rfl) (by kernel_rfl)
  obtain ⟨a2, s2, hv2, -⟩ := laid_sentinel h6 gSyntax rfl Tryd.underlying50 rowE Tryd.underlying111 Tryd.underlying113 rfl rfl Tryd.underlying9 (by kernel_rfl) (by kernel_rfl)
  refine ⟨⟨_, _, by simpa using World.var?_cell gSyntax hv2 0⟩, ⟨_, _, by simpa using World.var?_cell gRange hv1 0⟩, ?_⟩
  have h3' : laidMet Tryd.prog (("internal/strconv.uint64pow10", Lib.tabData .u64 Lib.pow10Tab) :: _) W := h3
  exact Lib.tabIs_of_head gPow rfl Tryd.underlying99 Tryd.underlying79 (by kernel_rfl) (by kernel_rfl) h3'
end Go.Proofs.YtnegkabafigfnaaDoor.Lex
