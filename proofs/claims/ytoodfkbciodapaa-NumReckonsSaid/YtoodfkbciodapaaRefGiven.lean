/- ashlarref01.cut in the form in which a printed text meets a callee: its answer's row lies where its argument's does. -/
import Derived.Test.YtoodfkbciodapaaRefC
import Derived.Test.YtoodfkbciodapaaWWords
namespace Go.Proofs.Ytoodfkbciodapaa.Given
open Go.RowKit Go.Proofs.YtoodfkbciodapaaW.PrintWords Go.Proofs.Ytoodfkbciodapaa.Ref

def ashlarref01_cut.f (d : Bool) (l : List Int) : Option (Bool × List Int) := if l.length ≤ 1000000 then some (d && decide (0 < (cutL l).length), cutL l) else none

theorem ashlarref01_cut.calls (a0_0 : Bool) (P0_1_ : Nat → Prop) (A0_1 : Option Addr) (c0_1 : Nat) (l0_1 : List Int) (r1 : Bool) (r2 : List Int) (w : World) (hs0_1 : Kd.V (Kd.int .i64) 3 w w.heap.size (fun k_ => P0_1_ k_) (.slice A0_1 l0_1.length c0_1) l0_1) (h : ashlarref01_cut.f a0_0 l0_1 = some (r1, r2)) :
    Calls Try.prog 51 #[.agg #[.bool a0_0, .slice A0_1 l0_1.length c0_1]] w fun e w' => ∃ v1_ : Value, e = .returned (.agg #[.bool r1, v1_]) ∧ Kd.V (Kd.int .i64) 3 w' w.heap.size (fun k_ => (P0_1_ k_ ∨ w.heap.size ≤ k_)) v1_ r2 ∧ Below w.heap.size w w' := by
  unfold ashlarref01_cut.f at h
  split at h
  · rename_i hl
    obtain ⟨e1, e2⟩ := Prod.mk.inj (Option.some.inj h)
    subst e1 e2
    obtain ⟨-, h2, h3⟩ := Kd.V_reads' hs0_1
    refine (cut_any a0_0 A0_1 c0_1 l0_1 w h3 h2 hl).mono ?_
    rintro e' w' ⟨rfl, hb⟩
    refine ⟨_, by rw [cutL_len], ?_, hb⟩
    have hF := Kd.F_take (Kd.V_F hs0_1) (cutN_le l0_1 l0_1.length)
    have hV : Kd.V (Kd.int .i64) 3 w w.heap.size (fun k_ => P0_1_ k_) (.slice A0_1 (cutL l0_1).length c0_1) (cutL l0_1) := Kd.V_mk (by rw [cutL_len]; have := cutN_le l0_1 l0_1.length; omega) hF
    rw [cutL_len] at hV
    exact Kd.V_mono (Kd.V_below hV hb) (fun k hk => .inl hk)
  · cases h
end Go.Proofs.Ytoodfkbciodapaa.Given
