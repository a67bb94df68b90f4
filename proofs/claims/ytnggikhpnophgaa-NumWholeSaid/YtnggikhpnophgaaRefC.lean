/- ashlarref01.cut at a row that the caller owns: what is answered is the caller's. -/
import Derived.Test.YtnggikhpnophgaaRefA
namespace Go.Proofs.Ytnggikhpnophgaa.Ref
open Go.RowKit Go.Proofs.YtnggikhpnophgaaW.PrintWords

/-- The digits that stay. -/
def cutL (l : List Int) : List Int := l.take (cutN l l.length)
theorem cutL_len (l : List Int) : (cutL l).length = cutN l l.length := by
  unfold cutL; rw [List.length_take]; have := cutN_le l l.length; omega

theorem cut_own (d : Bool) (A : Option Addr) (c e base : Nat) (ok : Nat → Prop) (l : List Int) (W : World) (ho : Kd.R (Kd.int .i64) e W base ok (.slice A l.length c) l) (hl : l.length ≤ 1000000) :
    Calls Try.prog 49 #[.agg #[.bool d, .slice A l.length c]] W fun e' w' => e' = .returned (.agg #[.bool (d && decide (0 < (cutL l).length)), .slice A (cutL l).length c]) ∧ Kd.R (Kd.int .i64) e w' base ok (.slice A (cutL l).length c) (cutL l) ∧ Below W.heap.size W w' := by
  obtain ⟨h1, h2, h3⟩ := Kd.R_reads' ho
  rw [cutL_len]
  refine (cut_any d A c l W h3 h2 hl).mono ?_
  rintro e' w' ⟨rfl, hb⟩
  exact ⟨rfl, Kd.R_below (Kd.R_take ho (cutN_le l l.length)) hb, hb⟩

/-- ashlarref01.cut at a row that is looked at alone. -/
theorem cut_view (d : Bool) (A : Option Addr) (c : Nat) (l : List Int) (W : World) (hr : Kd.C (Kd.int .i64) W A l.length l) (hc : l.length ≤ c) (hl : l.length ≤ 1000000) :
    Calls Try.prog 49 #[.agg #[.bool d, .slice A l.length c]] W fun e' w' => e' = .returned (.agg #[.bool (d && decide (0 < (cutL l).length)), .slice A (cutL l).length c]) ∧ Kd.C (Kd.int .i64) w' A (cutL l).length (cutL l) ∧ Below W.heap.size W w' := by
  rw [cutL_len]
  refine (cut_any d A c l W hr hc hl).mono ?_
  rintro e' w' ⟨rfl, hb⟩
  have h := Kd.C_take hr (cutN_le l l.length)
  have e2 : (l.take (cutN l l.length)).length = cutN l l.length := cutL_len l
  rw [e2] at h
  exact ⟨rfl, Kd.C_below h hb, hb⟩
end Go.Proofs.Ytnggikhpnophgaa.Ref
