/- The plain law of NumMakes. -/
import Derived.Test.YtnggikhpnophgaaDigNumMakes
namespace Go.Proofs.Ytnggikhpnophgaa.Pure
open Go.RowKit Go.Proofs.Ytnggikhpnophgaa.PNumMakes Go.Proofs.YtnggikhpnophgaaW.PrintWords Go.Proofs.YtnggikhpnophgaaW.PrintLast Go.Proofs.Ytnggikhpnophgaa.Given Go.Proofs.Ytnggikhpnophgaa.Num Go.Proofs.Ytnggikhpnophgaa.Dig Go.Proofs.Ytnggikhpnophgaa.DigNumMakes
set_option linter.unusedVariables false
set_option linter.unusedSimpArgs false

theorem NumMakes : ashlarlaw01_NumMakes.Pure := by
  intro p q hp0 hq0
  have hp := in64_wf hp0
  have hq := in64_wf hq0
  have hm : num_Make.f p q = some (mk p q) := by unfold num_Make.f; rw [if_pos ⟨hp, hq⟩]
  have : Frm (fun k => ashlarlaw01_NumMakes.f k p q) true := by
    unfold ashlarlaw01_NumMakes.f ashlarlaw01_shown.f
    simp only [Option.bind_some, hm]
    refine Frm.bind (of_dg hp) ?_
    refine Frm.bind (of_dg hq) ?_
    refine Frm.bind (make_dg (Nat.le_trans (len_in hp) (by decide)) (Nat.le_trans (len_in hq) (by decide))) ?_
    refine Frm.const fun k => ?_
    rcases mk_cases p q with ⟨_, e⟩ | ⟨P, Q, e, _, _, _, _, _, hl, _⟩
    · rw [e]; simp [num_Whole.f]
    · have := hl.pos
      rw [e]; simp [num_Whole.f, this]
  obtain ⟨k0, h⟩ := this
  exact ⟨k0, h k0 (Nat.le_refl _)⟩
end Go.Proofs.Ytnggikhpnophgaa.Pure
