-- Written by a program of this session (myprint.py) out of the translation, with contracts of this session given.
import Derived.Test.YtnggikhpnophgaaPNumWholex0
import Derived.Test.YtnggikhpnophgaaPNumWholex1
import Derived.Test.YtnggikhpnophgaaPNumWholex2
import Derived.Test.YtnggikhpnophgaaPNumWholex3
import Derived.Test.YtnggikhpnophgaaPNumWholex5
namespace Go.Proofs.Ytnggikhpnophgaa.PNumWhole
open Go.RowKit Go.Proofs.Ytnggikhpnophgaa.Given Go.Proofs.YtnggikhpnophgaaW.PrintWords Go.Proofs.YtnggikhpnophgaaW.PrintLast Go.Proofs.YtnggikhpnophgaaW.PrintMore
attribute [local go_sem] max2_int min2_int max_two min_two max_three min_three max_four min_four   -- for this text's walks alone
set_option linter.unusedVariables false
set_option linter.unusedSimpArgs false

/-! ### ashlarlaw01_NumWhole: function 8 -/
def ashlarlaw01_NumWhole.f (k : Nat) (a0 : Int) (a1 : Int) : Option (Bool) := (ashlarlaw01_shown.f).bind fun t231 => ((ashlarref01_Of.f k a0).bind fun bt232 => ((ashlarref01_Of.f k a1).bind fun bt237 => ((num_Add.f a0 a1).bind fun bt242 => ((num_Sub.f a0 a1).bind fun bt244 => ((num_Mul.f a0 a1).bind fun bt246 => ((num_Neg.f a0).bind fun bt248 => ((num_Gcd.f a0 a1).bind fun bt250 => (if t231 = true then ((ashlarref01_Plus.f k bt232.1 bt232.2 bt237.1 bt237.2).bind fun bt252 => ((ashlarlaw01_fits.f k bt252.1 bt252.2 bt242.1 bt242.2).bind fun t256 => (if t256 = true then ((ashlarref01_Turn.f bt237.1 bt237.2).bind fun bt257 => ((ashlarref01_Plus.f k bt232.1 bt232.2 bt257.1 bt257.2).bind fun bt261 => ((ashlarlaw01_fits.f k bt261.1 bt261.2 bt244.1 bt244.2).bind fun t265 => (if t265 = true then ((ashlarref01_Times.f k bt232.1 bt232.2 bt237.1 bt237.2).bind fun bt266 => ((ashlarlaw01_fits.f k bt266.1 bt266.2 bt246.1 bt246.2).bind fun t270 => (if t270 = true then ((ashlarref01_Turn.f bt232.1 bt232.2).bind fun bt271 => ((ashlarlaw01_fits.f k bt271.1 bt271.2 bt248.1 bt248.2).bind fun t275 => (if t275 = true then ((ashlarref01_Gcd.f k bt232.1 bt232.2 bt237.1 bt237.2).bind fun bt276 => ((ashlarlaw01_fits.f k bt276.1 bt276.2 bt250.1 bt250.2).bind fun t280 => (some t280))) else (some false)))) else (some false)))) else (some false))))) else (some false)))) else (some false)))))))))
theorem ashlarlaw01_NumWhole.mono : ∀ a0 a1 k, LeO (ashlarlaw01_NumWhole.f k a0 a1) (ashlarlaw01_NumWhole.f (k + 1) a0 a1) := by
  intro a0 a1 k
  unfold ashlarlaw01_NumWhole.f
  repeat' first
      | (with_reducible exact ashlarlaw01_fits.mono _ _ _ _ _)
      | (with_reducible exact ashlarref01_Gcd.mono _ _ _ _ _)
      | (with_reducible exact ashlarref01_Of.mono _ _)
      | (with_reducible exact ashlarref01_Plus.mono _ _ _ _ _)
      | (with_reducible exact ashlarref01_Times.mono _ _ _ _ _)
      | (with_reducible exact LeO.refl _)
      | (with_reducible exact LeO.none _)
      | (with_reducible refine LeO.ite ?_ ?_)
      | (with_reducible refine LeO.bind ?_ (fun _ => ?_))
      | exact ashlarlaw01_fits.mono _ _ _ _ _
      | exact ashlarref01_Gcd.mono _ _ _ _ _
      | exact ashlarref01_Of.mono _ _
      | exact ashlarref01_Plus.mono _ _ _ _ _
      | exact ashlarref01_Times.mono _ _ _ _ _
      | exact LeO.none _
      | refine LeO.ite ?_ ?_
      | refine LeO.bind ?_ (fun _ => ?_)
def ashlarlaw01_NumWhole.T9 : Bool × List (List Nat × List Nat) := (true, [([], []), ([0], [0]), ([1], [1]), ([1], [1]), ([2, 3, 1, 1], [1, 2, 3]), ([1], [1]), ([1], [1]), ([4, 5, 6, 4, 1], [1, 4, 5, 6]), ([1, 7], [1, 7]), ([8, 7], [8]), ([9], [9]), ([9], [9]), ([11, 9, 9], [9, 11]), ([10, 12, 12, 9], [9, 10, 12]), ([9], [9]), ([9], [9]), ([13, 14, 15, 13, 9], [9, 13, 14, 15]), ([9, 16], [9, 16]), ([17, 16], [17]), ([18], [18]), ([18], [18]), ([19, 20, 18, 18], [18, 19, 20]), ([18], [18]), ([18], [18]), ([21, 22, 23, 21, 18], [18, 21, 22, 23]), ([18, 24], [18, 24]), ([25, 24], [25]), ([26], [26]), ([27, 26, 26], [26, 27]), ([26], [26]), ([26], [26]), ([28, 29, 30, 28, 26], [26, 28, 29, 30]), ([26, 31], [26, 31]), ([32, 31], [32]), ([33], [33]), ([33], [33]), ([34, 35, 33, 33], [33, 34, 35]), ([33], [33]), ([33], [33]), ([36, 37, 38, 36, 33], [33, 36, 37, 38]), ([33, 39], [33, 39]), ([40, 39, 0, 1, 2, 3, 4, 5, 6, 7, 8, 9, 10, 11, 12, 13, 14, 15, 16, 17, 18, 19, 20, 21, 22, 23, 24, 25, 26, 27, 28, 29, 30, 31, 32, 33, 34, 35, 36, 37, 38, 39, 40], [40])])
def ashlarlaw01_NumWhole.B9 : List Nat := [0, 1, 3, 3, 15, 3, 3, 127, 255, 511, 1023, 1023, 3071, 8191, 1023, 1023, 65535, 131071, 262143, 524287, 524287, 2097151, 524287, 524287, 16777215, 33554431, 67108863, 134217727, 268435455, 134217727, 134217727, 2147483647, 4294967295, 8589934591, 17179869183, 17179869183, 68719476735, 17179869183, 17179869183, 549755813887, 1099511627775, 2199023255551]
theorem ashlarlaw01_NumWhole.tab9 : rtab .any (opsOf Try.f8 9) = ashlarlaw01_NumWhole.T9 := by kernel_rfl
theorem ashlarlaw01_NumWhole.bits9 : waitsOk ashlarlaw01_NumWhole.T9.2 ashlarlaw01_NumWhole.B9 = true := by kernel_rfl
set_option maxHeartbeats 8000000 in
set_option maxRecDepth 100000 in
theorem ashlarlaw01_NumWhole.calls (k : Nat) (a0 : Int) (a1 : Int) (r : Bool) (w : World) (hr : r = true) (h : ashlarlaw01_NumWhole.f k a0 a1 = some r) :
    Calls Try.prog 8 #[.int .i64 a0, .int .i64 a1] w fun e w' => e = .returned (.bool r) ∧ Below w.heap.size w w' := by
  have hu31 := Try.underlying31
  have HB := Aside0.mk (Below.refl w.heap.size w)
  have H : ((ashlarlaw01_shown.f).bind fun t231 => ((ashlarref01_Of.f k a0).bind fun bt232 => ((ashlarref01_Of.f k a1).bind fun bt237 => ((num_Add.f a0 a1).bind fun bt242 => ((num_Sub.f a0 a1).bind fun bt244 => ((num_Mul.f a0 a1).bind fun bt246 => ((num_Neg.f a0).bind fun bt248 => ((num_Gcd.f a0 a1).bind fun bt250 => (if t231 = true then ((ashlarref01_Plus.f k bt232.1 bt232.2 bt237.1 bt237.2).bind fun bt252 => ((ashlarlaw01_fits.f k bt252.1 bt252.2 bt242.1 bt242.2).bind fun t256 => (if t256 = true then ((ashlarref01_Turn.f bt237.1 bt237.2).bind fun bt257 => ((ashlarref01_Plus.f k bt232.1 bt232.2 bt257.1 bt257.2).bind fun bt261 => ((ashlarlaw01_fits.f k bt261.1 bt261.2 bt244.1 bt244.2).bind fun t265 => (if t265 = true then ((ashlarref01_Times.f k bt232.1 bt232.2 bt237.1 bt237.2).bind fun bt266 => ((ashlarlaw01_fits.f k bt266.1 bt266.2 bt246.1 bt246.2).bind fun t270 => (if t270 = true then ((ashlarref01_Turn.f bt232.1 bt232.2).bind fun bt271 => ((ashlarlaw01_fits.f k bt271.1 bt271.2 bt248.1 bt248.2).bind fun t275 => (if t275 = true then ((ashlarref01_Gcd.f k bt232.1 bt232.2 bt237.1 bt237.2).bind fun bt276 => ((ashlarlaw01_fits.f k bt276.1 bt276.2 bt250.1 bt250.2).bind fun t280 => (some t280))) else (some false)))) else (some false)))) else (some false))))) else (some false)))) else (some false)))))))))) = some r := h
  clear h
  replace H := Option.bind_eq_some_iff.mp H
  obtain ⟨t231, A30, H⟩ := H
  replace H : ((ashlarref01_Of.f k a0).bind fun bt232 => ((ashlarref01_Of.f k a1).bind fun bt237 => ((num_Add.f a0 a1).bind fun bt242 => ((num_Sub.f a0 a1).bind fun bt244 => ((num_Mul.f a0 a1).bind fun bt246 => ((num_Neg.f a0).bind fun bt248 => ((num_Gcd.f a0 a1).bind fun bt250 => (if t231 = true then ((ashlarref01_Plus.f k bt232.1 bt232.2 bt237.1 bt237.2).bind fun bt252 => ((ashlarlaw01_fits.f k bt252.1 bt252.2 bt242.1 bt242.2).bind fun t256 => (if t256 = true then ((ashlarref01_Turn.f bt237.1 bt237.2).bind fun bt257 => ((ashlarref01_Plus.f k bt232.1 bt232.2 bt257.1 bt257.2).bind fun bt261 => ((ashlarlaw01_fits.f k bt261.1 bt261.2 bt244.1 bt244.2).bind fun t265 => (if t265 = true then ((ashlarref01_Times.f k bt232.1 bt232.2 bt237.1 bt237.2).bind fun bt266 => ((ashlarlaw01_fits.f k bt266.1 bt266.2 bt246.1 bt246.2).bind fun t270 => (if t270 = true then ((ashlarref01_Turn.f bt232.1 bt232.2).bind fun bt271 => ((ashlarlaw01_fits.f k bt271.1 bt271.2 bt248.1 bt248.2).bind fun t275 => (if t275 = true then ((ashlarref01_Gcd.f k bt232.1 bt232.2 bt237.1 bt237.2).bind fun bt276 => ((ashlarlaw01_fits.f k bt276.1 bt276.2 bt250.1 bt250.2).bind fun t280 => (some t280))) else (some false)))) else (some false)))) else (some false))))) else (some false)))) else (some false))))))))) = some r := H
  have A3 := Aside0.mk A30
  clear A30
  replace H := Option.bind_eq_some_iff.mp H
  obtain ⟨⟨t232, t233⟩, A40, H⟩ := H
  replace H : ((ashlarref01_Of.f k a1).bind fun bt237 => ((num_Add.f a0 a1).bind fun bt242 => ((num_Sub.f a0 a1).bind fun bt244 => ((num_Mul.f a0 a1).bind fun bt246 => ((num_Neg.f a0).bind fun bt248 => ((num_Gcd.f a0 a1).bind fun bt250 => (if t231 = true then ((ashlarref01_Plus.f k t232 t233 bt237.1 bt237.2).bind fun bt252 => ((ashlarlaw01_fits.f k bt252.1 bt252.2 bt242.1 bt242.2).bind fun t256 => (if t256 = true then ((ashlarref01_Turn.f bt237.1 bt237.2).bind fun bt257 => ((ashlarref01_Plus.f k t232 t233 bt257.1 bt257.2).bind fun bt261 => ((ashlarlaw01_fits.f k bt261.1 bt261.2 bt244.1 bt244.2).bind fun t265 => (if t265 = true then ((ashlarref01_Times.f k t232 t233 bt237.1 bt237.2).bind fun bt266 => ((ashlarlaw01_fits.f k bt266.1 bt266.2 bt246.1 bt246.2).bind fun t270 => (if t270 = true then ((ashlarref01_Turn.f t232 t233).bind fun bt271 => ((ashlarlaw01_fits.f k bt271.1 bt271.2 bt248.1 bt248.2).bind fun t275 => (if t275 = true then ((ashlarref01_Gcd.f k t232 t233 bt237.1 bt237.2).bind fun bt276 => ((ashlarlaw01_fits.f k bt276.1 bt276.2 bt250.1 bt250.2).bind fun t280 => (some t280))) else (some false)))) else (some false)))) else (some false))))) else (some false)))) else (some false)))))))) = some r := H
  have A4 := Aside0.mk A40
  clear A40
  replace H := Option.bind_eq_some_iff.mp H
  obtain ⟨⟨t237, t238⟩, A50, H⟩ := H
  replace H : ((num_Add.f a0 a1).bind fun bt242 => ((num_Sub.f a0 a1).bind fun bt244 => ((num_Mul.f a0 a1).bind fun bt246 => ((num_Neg.f a0).bind fun bt248 => ((num_Gcd.f a0 a1).bind fun bt250 => (if t231 = true then ((ashlarref01_Plus.f k t232 t233 t237 t238).bind fun bt252 => ((ashlarlaw01_fits.f k bt252.1 bt252.2 bt242.1 bt242.2).bind fun t256 => (if t256 = true then ((ashlarref01_Turn.f t237 t238).bind fun bt257 => ((ashlarref01_Plus.f k t232 t233 bt257.1 bt257.2).bind fun bt261 => ((ashlarlaw01_fits.f k bt261.1 bt261.2 bt244.1 bt244.2).bind fun t265 => (if t265 = true then ((ashlarref01_Times.f k t232 t233 t237 t238).bind fun bt266 => ((ashlarlaw01_fits.f k bt266.1 bt266.2 bt246.1 bt246.2).bind fun t270 => (if t270 = true then ((ashlarref01_Turn.f t232 t233).bind fun bt271 => ((ashlarlaw01_fits.f k bt271.1 bt271.2 bt248.1 bt248.2).bind fun t275 => (if t275 = true then ((ashlarref01_Gcd.f k t232 t233 t237 t238).bind fun bt276 => ((ashlarlaw01_fits.f k bt276.1 bt276.2 bt250.1 bt250.2).bind fun t280 => (some t280))) else (some false)))) else (some false)))) else (some false))))) else (some false)))) else (some false))))))) = some r := H
  have A5 := Aside0.mk A50
  clear A50
  replace H := Option.bind_eq_some_iff.mp H
  obtain ⟨⟨t242, t243⟩, A60, H⟩ := H
  replace H : ((num_Sub.f a0 a1).bind fun bt244 => ((num_Mul.f a0 a1).bind fun bt246 => ((num_Neg.f a0).bind fun bt248 => ((num_Gcd.f a0 a1).bind fun bt250 => (if t231 = true then ((ashlarref01_Plus.f k t232 t233 t237 t238).bind fun bt252 => ((ashlarlaw01_fits.f k bt252.1 bt252.2 t242 t243).bind fun t256 => (if t256 = true then ((ashlarref01_Turn.f t237 t238).bind fun bt257 => ((ashlarref01_Plus.f k t232 t233 bt257.1 bt257.2).bind fun bt261 => ((ashlarlaw01_fits.f k bt261.1 bt261.2 bt244.1 bt244.2).bind fun t265 => (if t265 = true then ((ashlarref01_Times.f k t232 t233 t237 t238).bind fun bt266 => ((ashlarlaw01_fits.f k bt266.1 bt266.2 bt246.1 bt246.2).bind fun t270 => (if t270 = true then ((ashlarref01_Turn.f t232 t233).bind fun bt271 => ((ashlarlaw01_fits.f k bt271.1 bt271.2 bt248.1 bt248.2).bind fun t275 => (if t275 = true then ((ashlarref01_Gcd.f k t232 t233 t237 t238).bind fun bt276 => ((ashlarlaw01_fits.f k bt276.1 bt276.2 bt250.1 bt250.2).bind fun t280 => (some t280))) else (some false)))) else (some false)))) else (some false))))) else (some false)))) else (some false)))))) = some r := H
  have A6 := Aside0.mk A60
  clear A60
  replace H := Option.bind_eq_some_iff.mp H
  obtain ⟨⟨t244, t245⟩, A70, H⟩ := H
  replace H : ((num_Mul.f a0 a1).bind fun bt246 => ((num_Neg.f a0).bind fun bt248 => ((num_Gcd.f a0 a1).bind fun bt250 => (if t231 = true then ((ashlarref01_Plus.f k t232 t233 t237 t238).bind fun bt252 => ((ashlarlaw01_fits.f k bt252.1 bt252.2 t242 t243).bind fun t256 => (if t256 = true then ((ashlarref01_Turn.f t237 t238).bind fun bt257 => ((ashlarref01_Plus.f k t232 t233 bt257.1 bt257.2).bind fun bt261 => ((ashlarlaw01_fits.f k bt261.1 bt261.2 t244 t245).bind fun t265 => (if t265 = true then ((ashlarref01_Times.f k t232 t233 t237 t238).bind fun bt266 => ((ashlarlaw01_fits.f k bt266.1 bt266.2 bt246.1 bt246.2).bind fun t270 => (if t270 = true then ((ashlarref01_Turn.f t232 t233).bind fun bt271 => ((ashlarlaw01_fits.f k bt271.1 bt271.2 bt248.1 bt248.2).bind fun t275 => (if t275 = true then ((ashlarref01_Gcd.f k t232 t233 t237 t238).bind fun bt276 => ((ashlarlaw01_fits.f k bt276.1 bt276.2 bt250.1 bt250.2).bind fun t280 => (some t280))) else (some false)))) else (some false)))) else (some false))))) else (some false)))) else (some false))))) = some r := H
  have A7 := Aside0.mk A70
  clear A70
  replace H := Option.bind_eq_some_iff.mp H
  obtain ⟨⟨t246, t247⟩, A80, H⟩ := H
  replace H : ((num_Neg.f a0).bind fun bt248 => ((num_Gcd.f a0 a1).bind fun bt250 => (if t231 = true then ((ashlarref01_Plus.f k t232 t233 t237 t238).bind fun bt252 => ((ashlarlaw01_fits.f k bt252.1 bt252.2 t242 t243).bind fun t256 => (if t256 = true then ((ashlarref01_Turn.f t237 t238).bind fun bt257 => ((ashlarref01_Plus.f k t232 t233 bt257.1 bt257.2).bind fun bt261 => ((ashlarlaw01_fits.f k bt261.1 bt261.2 t244 t245).bind fun t265 => (if t265 = true then ((ashlarref01_Times.f k t232 t233 t237 t238).bind fun bt266 => ((ashlarlaw01_fits.f k bt266.1 bt266.2 t246 t247).bind fun t270 => (if t270 = true then ((ashlarref01_Turn.f t232 t233).bind fun bt271 => ((ashlarlaw01_fits.f k bt271.1 bt271.2 bt248.1 bt248.2).bind fun t275 => (if t275 = true then ((ashlarref01_Gcd.f k t232 t233 t237 t238).bind fun bt276 => ((ashlarlaw01_fits.f k bt276.1 bt276.2 bt250.1 bt250.2).bind fun t280 => (some t280))) else (some false)))) else (some false)))) else (some false))))) else (some false)))) else (some false)))) = some r := H
  have A8 := Aside0.mk A80
  clear A80
  replace H := Option.bind_eq_some_iff.mp H
  obtain ⟨⟨t248, t249⟩, A90, H⟩ := H
  replace H : ((num_Gcd.f a0 a1).bind fun bt250 => (if t231 = true then ((ashlarref01_Plus.f k t232 t233 t237 t238).bind fun bt252 => ((ashlarlaw01_fits.f k bt252.1 bt252.2 t242 t243).bind fun t256 => (if t256 = true then ((ashlarref01_Turn.f t237 t238).bind fun bt257 => ((ashlarref01_Plus.f k t232 t233 bt257.1 bt257.2).bind fun bt261 => ((ashlarlaw01_fits.f k bt261.1 bt261.2 t244 t245).bind fun t265 => (if t265 = true then ((ashlarref01_Times.f k t232 t233 t237 t238).bind fun bt266 => ((ashlarlaw01_fits.f k bt266.1 bt266.2 t246 t247).bind fun t270 => (if t270 = true then ((ashlarref01_Turn.f t232 t233).bind fun bt271 => ((ashlarlaw01_fits.f k bt271.1 bt271.2 t248 t249).bind fun t275 => (if t275 = true then ((ashlarref01_Gcd.f k t232 t233 t237 t238).bind fun bt276 => ((ashlarlaw01_fits.f k bt276.1 bt276.2 bt250.1 bt250.2).bind fun t280 => (some t280))) else (some false)))) else (some false)))) else (some false))))) else (some false)))) else (some false))) = some r := H
  have A9 := Aside0.mk A90
  clear A90
  replace H := Option.bind_eq_some_iff.mp H
  obtain ⟨⟨t250, t251⟩, A100, H⟩ := H
  replace H : (if t231 = true then ((ashlarref01_Plus.f k t232 t233 t237 t238).bind fun bt252 => ((ashlarlaw01_fits.f k bt252.1 bt252.2 t242 t243).bind fun t256 => (if t256 = true then ((ashlarref01_Turn.f t237 t238).bind fun bt257 => ((ashlarref01_Plus.f k t232 t233 bt257.1 bt257.2).bind fun bt261 => ((ashlarlaw01_fits.f k bt261.1 bt261.2 t244 t245).bind fun t265 => (if t265 = true then ((ashlarref01_Times.f k t232 t233 t237 t238).bind fun bt266 => ((ashlarlaw01_fits.f k bt266.1 bt266.2 t246 t247).bind fun t270 => (if t270 = true then ((ashlarref01_Turn.f t232 t233).bind fun bt271 => ((ashlarlaw01_fits.f k bt271.1 bt271.2 t248 t249).bind fun t275 => (if t275 = true then ((ashlarref01_Gcd.f k t232 t233 t237 t238).bind fun bt276 => ((ashlarlaw01_fits.f k bt276.1 bt276.2 t250 t251).bind fun t280 => (some t280))) else (some false)))) else (some false)))) else (some false))))) else (some false)))) else (some false)) = some r := H
  have A10 := Aside0.mk A100
  clear A100
  by_cases c11 : t231 = true
  · subst c11
    have H1 : ((ashlarref01_Plus.f k t232 t233 t237 t238).bind fun bt252 => ((ashlarlaw01_fits.f k bt252.1 bt252.2 t242 t243).bind fun t256 => (if t256 = true then ((ashlarref01_Turn.f t237 t238).bind fun bt257 => ((ashlarref01_Plus.f k t232 t233 bt257.1 bt257.2).bind fun bt261 => ((ashlarlaw01_fits.f k bt261.1 bt261.2 t244 t245).bind fun t265 => (if t265 = true then ((ashlarref01_Times.f k t232 t233 t237 t238).bind fun bt266 => ((ashlarlaw01_fits.f k bt266.1 bt266.2 t246 t247).bind fun t270 => (if t270 = true then ((ashlarref01_Turn.f t232 t233).bind fun bt271 => ((ashlarlaw01_fits.f k bt271.1 bt271.2 t248 t249).bind fun t275 => (if t275 = true then ((ashlarref01_Gcd.f k t232 t233 t237 t238).bind fun bt276 => ((ashlarlaw01_fits.f k bt276.1 bt276.2 t250 t251).bind fun t280 => (some t280))) else (some false)))) else (some false)))) else (some false))))) else (some false)))) = some r := by rw [if_pos rfl] at H; exact H
    clear H
    have H := H1
    clear H1
    replace H := Option.bind_eq_some_iff.mp H
    obtain ⟨⟨t252, t253⟩, A120, H⟩ := H
    replace H : ((ashlarlaw01_fits.f k t252 t253 t242 t243).bind fun t256 => (if t256 = true then ((ashlarref01_Turn.f t237 t238).bind fun bt257 => ((ashlarref01_Plus.f k t232 t233 bt257.1 bt257.2).bind fun bt261 => ((ashlarlaw01_fits.f k bt261.1 bt261.2 t244 t245).bind fun t265 => (if t265 = true then ((ashlarref01_Times.f k t232 t233 t237 t238).bind fun bt266 => ((ashlarlaw01_fits.f k bt266.1 bt266.2 t246 t247).bind fun t270 => (if t270 = true then ((ashlarref01_Turn.f t232 t233).bind fun bt271 => ((ashlarlaw01_fits.f k bt271.1 bt271.2 t248 t249).bind fun t275 => (if t275 = true then ((ashlarref01_Gcd.f k t232 t233 t237 t238).bind fun bt276 => ((ashlarlaw01_fits.f k bt276.1 bt276.2 t250 t251).bind fun t280 => (some t280))) else (some false)))) else (some false)))) else (some false))))) else (some false))) = some r := H
    have A12 := Aside0.mk A120
    clear A120
    replace H := Option.bind_eq_some_iff.mp H
    obtain ⟨t256, A130, H⟩ := H
    replace H : (if t256 = true then ((ashlarref01_Turn.f t237 t238).bind fun bt257 => ((ashlarref01_Plus.f k t232 t233 bt257.1 bt257.2).bind fun bt261 => ((ashlarlaw01_fits.f k bt261.1 bt261.2 t244 t245).bind fun t265 => (if t265 = true then ((ashlarref01_Times.f k t232 t233 t237 t238).bind fun bt266 => ((ashlarlaw01_fits.f k bt266.1 bt266.2 t246 t247).bind fun t270 => (if t270 = true then ((ashlarref01_Turn.f t232 t233).bind fun bt271 => ((ashlarlaw01_fits.f k bt271.1 bt271.2 t248 t249).bind fun t275 => (if t275 = true then ((ashlarref01_Gcd.f k t232 t233 t237 t238).bind fun bt276 => ((ashlarlaw01_fits.f k bt276.1 bt276.2 t250 t251).bind fun t280 => (some t280))) else (some false)))) else (some false)))) else (some false))))) else (some false)) = some r := H
    have A13 := Aside0.mk A130
    clear A130
    by_cases c14 : t256 = true
    · subst c14
      have H1 : ((ashlarref01_Turn.f t237 t238).bind fun bt257 => ((ashlarref01_Plus.f k t232 t233 bt257.1 bt257.2).bind fun bt261 => ((ashlarlaw01_fits.f k bt261.1 bt261.2 t244 t245).bind fun t265 => (if t265 = true then ((ashlarref01_Times.f k t232 t233 t237 t238).bind fun bt266 => ((ashlarlaw01_fits.f k bt266.1 bt266.2 t246 t247).bind fun t270 => (if t270 = true then ((ashlarref01_Turn.f t232 t233).bind fun bt271 => ((ashlarlaw01_fits.f k bt271.1 bt271.2 t248 t249).bind fun t275 => (if t275 = true then ((ashlarref01_Gcd.f k t232 t233 t237 t238).bind fun bt276 => ((ashlarlaw01_fits.f k bt276.1 bt276.2 t250 t251).bind fun t280 => (some t280))) else (some false)))) else (some false)))) else (some false))))) = some r := by rw [if_pos rfl] at H; exact H
      clear H
      have H := H1
      clear H1
      replace H := Option.bind_eq_some_iff.mp H
      obtain ⟨⟨t257, t258⟩, A150, H⟩ := H
      replace H : ((ashlarref01_Plus.f k t232 t233 t257 t258).bind fun bt261 => ((ashlarlaw01_fits.f k bt261.1 bt261.2 t244 t245).bind fun t265 => (if t265 = true then ((ashlarref01_Times.f k t232 t233 t237 t238).bind fun bt266 => ((ashlarlaw01_fits.f k bt266.1 bt266.2 t246 t247).bind fun t270 => (if t270 = true then ((ashlarref01_Turn.f t232 t233).bind fun bt271 => ((ashlarlaw01_fits.f k bt271.1 bt271.2 t248 t249).bind fun t275 => (if t275 = true then ((ashlarref01_Gcd.f k t232 t233 t237 t238).bind fun bt276 => ((ashlarlaw01_fits.f k bt276.1 bt276.2 t250 t251).bind fun t280 => (some t280))) else (some false)))) else (some false)))) else (some false)))) = some r := H
      have A15 := Aside0.mk A150
      clear A150
      replace H := Option.bind_eq_some_iff.mp H
      obtain ⟨⟨t261, t262⟩, A160, H⟩ := H
      replace H : ((ashlarlaw01_fits.f k t261 t262 t244 t245).bind fun t265 => (if t265 = true then ((ashlarref01_Times.f k t232 t233 t237 t238).bind fun bt266 => ((ashlarlaw01_fits.f k bt266.1 bt266.2 t246 t247).bind fun t270 => (if t270 = true then ((ashlarref01_Turn.f t232 t233).bind fun bt271 => ((ashlarlaw01_fits.f k bt271.1 bt271.2 t248 t249).bind fun t275 => (if t275 = true then ((ashlarref01_Gcd.f k t232 t233 t237 t238).bind fun bt276 => ((ashlarlaw01_fits.f k bt276.1 bt276.2 t250 t251).bind fun t280 => (some t280))) else (some false)))) else (some false)))) else (some false))) = some r := H
      have A16 := Aside0.mk A160
      clear A160
      replace H := Option.bind_eq_some_iff.mp H
      obtain ⟨t265, A170, H⟩ := H
      replace H : (if t265 = true then ((ashlarref01_Times.f k t232 t233 t237 t238).bind fun bt266 => ((ashlarlaw01_fits.f k bt266.1 bt266.2 t246 t247).bind fun t270 => (if t270 = true then ((ashlarref01_Turn.f t232 t233).bind fun bt271 => ((ashlarlaw01_fits.f k bt271.1 bt271.2 t248 t249).bind fun t275 => (if t275 = true then ((ashlarref01_Gcd.f k t232 t233 t237 t238).bind fun bt276 => ((ashlarlaw01_fits.f k bt276.1 bt276.2 t250 t251).bind fun t280 => (some t280))) else (some false)))) else (some false)))) else (some false)) = some r := H
      have A17 := Aside0.mk A170
      clear A170
      by_cases c18 : t265 = true
      · subst c18
        have H1 : ((ashlarref01_Times.f k t232 t233 t237 t238).bind fun bt266 => ((ashlarlaw01_fits.f k bt266.1 bt266.2 t246 t247).bind fun t270 => (if t270 = true then ((ashlarref01_Turn.f t232 t233).bind fun bt271 => ((ashlarlaw01_fits.f k bt271.1 bt271.2 t248 t249).bind fun t275 => (if t275 = true then ((ashlarref01_Gcd.f k t232 t233 t237 t238).bind fun bt276 => ((ashlarlaw01_fits.f k bt276.1 bt276.2 t250 t251).bind fun t280 => (some t280))) else (some false)))) else (some false)))) = some r := by rw [if_pos rfl] at H; exact H
        clear H
        have H := H1
        clear H1
        replace H := Option.bind_eq_some_iff.mp H
        obtain ⟨⟨t266, t267⟩, A190, H⟩ := H
        replace H : ((ashlarlaw01_fits.f k t266 t267 t246 t247).bind fun t270 => (if t270 = true then ((ashlarref01_Turn.f t232 t233).bind fun bt271 => ((ashlarlaw01_fits.f k bt271.1 bt271.2 t248 t249).bind fun t275 => (if t275 = true then ((ashlarref01_Gcd.f k t232 t233 t237 t238).bind fun bt276 => ((ashlarlaw01_fits.f k bt276.1 bt276.2 t250 t251).bind fun t280 => (some t280))) else (some false)))) else (some false))) = some r := H
        have A19 := Aside0.mk A190
        clear A190
        replace H := Option.bind_eq_some_iff.mp H
        obtain ⟨t270, A200, H⟩ := H
        replace H : (if t270 = true then ((ashlarref01_Turn.f t232 t233).bind fun bt271 => ((ashlarlaw01_fits.f k bt271.1 bt271.2 t248 t249).bind fun t275 => (if t275 = true then ((ashlarref01_Gcd.f k t232 t233 t237 t238).bind fun bt276 => ((ashlarlaw01_fits.f k bt276.1 bt276.2 t250 t251).bind fun t280 => (some t280))) else (some false)))) else (some false)) = some r := H
        have A20 := Aside0.mk A200
        clear A200
        by_cases c21 : t270 = true
        · subst c21
          have H1 : ((ashlarref01_Turn.f t232 t233).bind fun bt271 => ((ashlarlaw01_fits.f k bt271.1 bt271.2 t248 t249).bind fun t275 => (if t275 = true then ((ashlarref01_Gcd.f k t232 t233 t237 t238).bind fun bt276 => ((ashlarlaw01_fits.f k bt276.1 bt276.2 t250 t251).bind fun t280 => (some t280))) else (some false)))) = some r := by rw [if_pos rfl] at H; exact H
          clear H
          have H := H1
          clear H1
          replace H := Option.bind_eq_some_iff.mp H
          obtain ⟨⟨t271, t272⟩, A220, H⟩ := H
          replace H : ((ashlarlaw01_fits.f k t271 t272 t248 t249).bind fun t275 => (if t275 = true then ((ashlarref01_Gcd.f k t232 t233 t237 t238).bind fun bt276 => ((ashlarlaw01_fits.f k bt276.1 bt276.2 t250 t251).bind fun t280 => (some t280))) else (some false))) = some r := H
          have A22 := Aside0.mk A220
          clear A220
          replace H := Option.bind_eq_some_iff.mp H
          obtain ⟨t275, A230, H⟩ := H
          replace H : (if t275 = true then ((ashlarref01_Gcd.f k t232 t233 t237 t238).bind fun bt276 => ((ashlarlaw01_fits.f k bt276.1 bt276.2 t250 t251).bind fun t280 => (some t280))) else (some false)) = some r := H
          have A23 := Aside0.mk A230
          clear A230
          by_cases c24 : t275 = true
          · subst c24
            have H1 : ((ashlarref01_Gcd.f k t232 t233 t237 t238).bind fun bt276 => ((ashlarlaw01_fits.f k bt276.1 bt276.2 t250 t251).bind fun t280 => (some t280))) = some r := by rw [if_pos rfl] at H; exact H
            clear H
            have H := H1
            clear H1
            replace H := Option.bind_eq_some_iff.mp H
            obtain ⟨⟨t276, t277⟩, A250, H⟩ := H
            replace H : ((ashlarlaw01_fits.f k t276 t277 t250 t251).bind fun t280 => (some t280)) = some r := H
            have A25 := Aside0.mk A250
            clear A250
            replace H := Option.bind_eq_some_iff.mp H
            obtain ⟨t280, A260, H⟩ := H
            replace H : (some t280) = some r := H
            have A26 := Aside0.mk A260
            clear A260
            obtain rfl := Option.some.inj H
            go_enter Try.func8, Try.ntmps8
            try go_wp2_with (first | ((with_reducible refine gate_callee (f := 14) rfl ?_); refine goesL_ (some 18) rfl rfl Try.func14 (by kernel_rfl) rfl #[] rfl (by (try simp only [List.map_toArray, List.map_cons, List.map_nil]); first | done | rfl | (simp only [List.length_drop, List.length_take]; rfl)) ?_; (with_reducible refine (ashlarlaw01_shown.calls  true _ A3.out).mono ?_); rintro e w27 ⟨rfl, hb⟩; refine ⟨_, rfl, ?_⟩; have n0_ := Aside0.mk (below_step (by repeat (first | (with_reducible first | exact HB.out | apply below_alloc | apply pw_below_drewN | apply below_drew1) | exact HB.out)) hb); clear HB; have HB := n0_; clear n0_; (try clear hb); (try clear hb2); (try clear hk); (try clear hi)) | ((with_reducible refine gate_callee (f := 17) rfl ?_); refine goesL_ (some 20) rfl rfl Try.func17 (by kernel_rfl) rfl #[.int .i64 a0] rfl (by (try simp only [List.map_toArray, List.map_cons, List.map_nil]); first | done | rfl | (simp only [List.length_drop, List.length_take]; rfl)) ?_; (with_reducible refine (ashlarref01_Of.calls k a0 t232 t233 _ A4.out).mono ?_); rintro e w28 ⟨v234, rfl, ho0, hb⟩; refine ⟨_, rfl, ?_⟩; have n0_ := Aside0.mk (Kd.R_lower ho0 (below_size (by repeat (first | (with_reducible first | exact HB.out | apply below_alloc | apply pw_below_drewN | apply below_drew1) | exact HB.out)))); have n1_ := Aside0.mk (below_step (by repeat (first | (with_reducible first | exact HB.out | apply below_alloc | apply pw_below_drewN | apply below_drew1) | exact HB.out)) hb); clear HB; have HO235 := n0_; have HB := n1_; clear n0_ n1_; (try clear hb); (try clear hb2); (try clear hk); (try clear hi); (try clear ho0)) | ((with_reducible refine gate_dst (N := 6) rfl ?_); refine box_event ?hg (N := 6) ?hd (cs := #[.bool false, .slice none 0 0]) (t := 31) ?hr ?_; (case hd => rfl); (case hg => rfl); (case hr => first | (go_simp; done) | (go_simp; rfl)); intro gb236 hg w29 hbox hb; have n0_ := Aside0.mk (Kd.R_below (by (with_reducible repeat (first | apply Kd.R_alloc | apply Kd.R_drewN | apply Kd.R_drew)); exact HO235.out) hb); have n1_ := Aside0.mk (below_step (by repeat (first | (with_reducible first | exact HB.out | apply below_alloc | apply pw_below_drewN | apply below_drew1) | exact HB.out)) hb); have n2_ := Aside0.mk (hbox); have n3_ := Aside0.mk ((by rw [hg]; exact (below_size (by repeat (first | (with_reducible first | exact HB.out | apply below_alloc | apply pw_below_drewN | apply below_drew1) | exact HB.out))) : w.heap.size ≤ gb236)); have n4_ := Aside0.mk ((by rw [hg]; exact (below_size (by repeat (first | (with_reducible first | exact HB.out | apply below_alloc | apply pw_below_drewN | apply below_drew1) | exact HB.out))) : w.heap.size ≤ gb236)); clear HO235; clear HB; have HO235 := n0_; have HB := n1_; have BK236 := n2_; have GW236 := n3_; have GE236 := n4_; clear n0_ n1_ n2_ n3_ n4_; clear hb hbox hg; have hcz30_0 : w29.cell? ⟨gb236, 0, none⟩ = some (.bool false) := (blk_cell BK236.out 0).trans rfl; have hcz30_1 : w29.cell? ⟨gb236, 1, none⟩ = some (.slice none 0 0) := (blk_cell BK236.out 1).trans rfl; have hfz30_0 := blk_frozen BK236.out 0; have hfz30_1 := blk_frozen BK236.out 1; obtain ⟨Ao31, co31, eo31⟩ := Kd.R_slice HO235.out; subst eo31) | ((with_reducible refine gate_callee (f := 17) rfl ?_); refine goesL_ (some 22) rfl rfl Try.func17 (by kernel_rfl) rfl #[.int .i64 a1] rfl (by (try simp only [List.map_toArray, List.map_cons, List.map_nil]); first | done | rfl | (simp only [List.length_drop, List.length_take]; rfl)) ?_; (with_reducible refine (ashlarref01_Of.calls k a1 t237 t238 _ A5.out).mono ?_); rintro e w32 ⟨v239, rfl, ho0, hb⟩; refine ⟨_, rfl, ?_⟩; have n0_ := Aside0.mk (Kd.R_elder' (by (with_reducible repeat (first | apply Kd.R_alloc | apply Kd.R_drewN | apply Kd.R_drew)); exact (Kd.R_mono (Kd.R_far (p := ⟨gb236, 1, none⟩) (Kd.R_far (p := ⟨gb236, 0, none⟩) (Kd.R_types HO235.out BK236.out (by decide)) (fun _ hk => hk.2) (.bool t232)) (fun _ hk => hk.2) (.slice Ao31 t233.length co31)) (fun _ h_ => h_.1))) (Kd.R_base ho0) hb); have n1_ := Aside0.mk (Kd.R_lower (Kd.R_new' ho0 (Kd.R_lt (by (with_reducible repeat (first | apply Kd.R_alloc | apply Kd.R_drewN | apply Kd.R_drew)); exact (Kd.R_mono (Kd.R_far (p := ⟨gb236, 1, none⟩) (Kd.R_far (p := ⟨gb236, 0, none⟩) (Kd.R_types HO235.out BK236.out (by decide)) (fun _ hk => hk.2) (.bool t232)) (fun _ hk => hk.2) (.slice Ao31 t233.length co31)) (fun _ h_ => h_.1))))) (below_size (by repeat (first | (with_reducible first | exact HB.out | apply below_alloc | apply pw_below_drewN | apply below_drew1 | refine below_set ?_ GE236.out) | exact HB.out)))); have n2_ := Aside0.mk (blk_below (g := gb236) (o := .cells #[.bool t232, .slice Ao31 t233.length co31] 31 (0, 0)) (by (with_reducible repeat (first | refine blk_drewN ?_ _ | refine blk_drew ?_ | refine blk_alloc ?_ _)); refine blk_put (cs := #[.bool t232, .slice none 0 0]) ?_ 1 _ rfl; (with_reducible repeat (first | refine blk_drewN ?_ _ | refine blk_drew ?_ | refine blk_alloc ?_ _)); refine blk_put (cs := #[.bool false, .slice none 0 0]) ?_ 0 _ rfl; (with_reducible repeat (first | refine blk_drewN ?_ _ | refine blk_drew ?_ | refine blk_alloc ?_ _)); exact BK236.out) hb); have n3_ := Aside0.mk (below_step (by repeat (first | (with_reducible first | exact HB.out | apply below_alloc | apply pw_below_drewN | apply below_drew1 | refine below_set ?_ GE236.out) | exact HB.out)) hb); clear HO235; clear BK236; clear HB; have HO235 := n0_; have HO240 := n1_; have BK236 := n2_; have HB := n3_; clear n0_ n1_ n2_ n3_; (try clear hb); (try clear hb2); (try clear hk); (try clear hi); (try clear ho0)) | ((with_reducible refine gate_dst (N := 7) rfl ?_); refine box_event ?hg (N := 7) ?hd (cs := #[.bool false, .slice none 0 0]) (t := 31) ?hr ?_; (case hd => rfl); (case hg => rfl); (case hr => first | (go_simp; done) | (go_simp; rfl)); intro gb241 hg w33 hbox hb; have n0_ := Aside0.mk (Kd.R_below (by (with_reducible repeat (first | apply Kd.R_alloc | apply Kd.R_drewN | apply Kd.R_drew)); exact HO235.out) hb); have n1_ := Aside0.mk (Kd.R_below (by (with_reducible repeat (first | apply Kd.R_alloc | apply Kd.R_drewN | apply Kd.R_drew)); exact HO240.out) hb); have n2_ := Aside0.mk (blk_below (g := gb236) (o := .cells #[.bool t232, .slice Ao31 t233.length co31] 31 (0, 0)) (by (with_reducible repeat (first | refine blk_drewN ?_ _ | refine blk_drew ?_ | refine blk_alloc ?_ _)); exact BK236.out) hb); have n3_ := Aside0.mk (below_step (by repeat (first | (with_reducible first | exact HB.out | apply below_alloc | apply pw_below_drewN | apply below_drew1 | refine below_set ?_ GE236.out) | exact HB.out)) hb); have n4_ := Aside0.mk (hbox); have n5_ := Aside0.mk ((by rw [hg]; exact (below_size (by repeat (first | (with_reducible first | exact HB.out | apply below_alloc | apply pw_below_drewN | apply below_drew1 | refine below_set ?_ GE236.out) | exact HB.out))) : w.heap.size ≤ gb241)); have n6_ := Aside0.mk ((by rw [hg]; exact (below_size (by repeat (first | (with_reducible first | exact HB.out | apply below_alloc | apply pw_below_drewN | apply below_drew1 | refine below_set ?_ GE236.out) | exact HB.out))) : w.heap.size ≤ gb241)); have n7_ := Aside0.mk ((by rw [hg]; exact Nat.ne_of_lt (blk_lt (g := gb236) (o := .cells #[.bool t232, .slice Ao31 t233.length co31] 31 (0, 0)) (by (with_reducible repeat (first | refine blk_drewN ?_ _ | refine blk_drew ?_ | refine blk_alloc ?_ _)); exact BK236.out)) : gb236 ≠ gb241)); have n8_ := Aside0.mk ((by rw [hg]; exact Nat.ne_of_gt (blk_lt (g := gb236) (o := .cells #[.bool t232, .slice Ao31 t233.length co31] 31 (0, 0)) (by (with_reducible repeat (first | refine blk_drewN ?_ _ | refine blk_drew ?_ | refine blk_alloc ?_ _)); exact BK236.out)) : gb241 ≠ gb236)); clear HO235; clear HO240; clear BK236; clear HB; have HO235 := n0_; have HO240 := n1_; have BK236 := n2_; have HB := n3_; have BK241 := n4_; have GW241 := n5_; have GE241 := n6_; have NB236_241 := n7_; have NB241_236 := n8_; clear n0_ n1_ n2_ n3_ n4_ n5_ n6_ n7_ n8_; clear hb hbox hg; have hnb34 := NB241_236.out; have hnc34 := NB236_241.out; have hcz35_0 : w33.cell? ⟨gb241, 0, none⟩ = some (.bool false) := (blk_cell BK241.out 0).trans rfl; have hcz35_1 : w33.cell? ⟨gb241, 1, none⟩ = some (.slice none 0 0) := (blk_cell BK241.out 1).trans rfl; have hfz35_0 := blk_frozen BK241.out 0; have hfz35_1 := blk_frozen BK241.out 1; obtain ⟨Ao36, co36, eo36⟩ := Kd.R_slice HO240.out; subst eo36) | ((with_reducible refine gate_callee (f := 27) rfl ?_); refine goesL_ (some 26) rfl rfl Try.func27 (by kernel_rfl) rfl #[.int .i64 a0, .int .i64 a1] rfl (by (try simp only [List.map_toArray, List.map_cons, List.map_nil]); first | done | rfl | (simp only [List.length_drop, List.length_take]; rfl)) ?_; (with_reducible refine (num_Add.calls a0 a1 t242 t243 _ A6.out).mono ?_); rintro e w37 ⟨rfl, hb⟩; refine ⟨_, rfl, ?_⟩; have n0_ := Aside0.mk (Kd.R_below (by (with_reducible repeat (first | apply Kd.R_alloc | apply Kd.R_drewN | apply Kd.R_drew)); exact (Kd.R_mono (Kd.R_far (p := ⟨gb241, 1, none⟩) (Kd.R_far (p := ⟨gb241, 0, none⟩) (Kd.R_types HO235.out BK241.out (by decide)) (fun _ hk => hk.2) (.bool t237)) (fun _ hk => hk.2) (.slice Ao36 t238.length co36)) (fun _ h_ => h_.1))) hb); have n1_ := Aside0.mk (Kd.R_below (by (with_reducible repeat (first | apply Kd.R_alloc | apply Kd.R_drewN | apply Kd.R_drew)); exact (Kd.R_mono (Kd.R_far (p := ⟨gb241, 1, none⟩) (Kd.R_far (p := ⟨gb241, 0, none⟩) (Kd.R_types HO240.out BK241.out (by decide)) (fun _ hk => hk.2) (.bool t237)) (fun _ hk => hk.2) (.slice Ao36 t238.length co36)) (fun _ h_ => h_.1))) hb); have n2_ := Aside0.mk (blk_below (g := gb236) (o := .cells #[.bool t232, .slice Ao31 t233.length co31] 31 (0, 0)) (by (with_reducible repeat (first | refine blk_drewN ?_ _ | refine blk_drew ?_ | refine blk_alloc ?_ _)); refine blk_far ?_ NB236_241.out _; (with_reducible repeat (first | refine blk_drewN ?_ _ | refine blk_drew ?_ | refine blk_alloc ?_ _)); refine blk_far ?_ NB236_241.out _; (with_reducible repeat (first | refine blk_drewN ?_ _ | refine blk_drew ?_ | refine blk_alloc ?_ _)); exact BK236.out) hb); have n3_ := Aside0.mk (blk_below (g := gb241) (o := .cells #[.bool t237, .slice Ao36 t238.length co36] 31 (0, 0)) (by (with_reducible repeat (first | refine blk_drewN ?_ _ | refine blk_drew ?_ | refine blk_alloc ?_ _)); refine blk_put (cs := #[.bool t237, .slice none 0 0]) ?_ 1 _ rfl; (with_reducible repeat (first | refine blk_drewN ?_ _ | refine blk_drew ?_ | refine blk_alloc ?_ _)); refine blk_put (cs := #[.bool false, .slice none 0 0]) ?_ 0 _ rfl; (with_reducible repeat (first | refine blk_drewN ?_ _ | refine blk_drew ?_ | refine blk_alloc ?_ _)); exact BK241.out) hb); have n4_ := Aside0.mk (below_step (by repeat (first | (with_reducible first | exact HB.out | apply below_alloc | apply pw_below_drewN | apply below_drew1 | refine below_set ?_ GE236.out | refine below_set ?_ GE241.out) | exact HB.out)) hb); clear HO235; clear HO240; clear BK236; clear BK241; clear HB; have HO235 := n0_; have HO240 := n1_; have BK236 := n2_; have BK241 := n3_; have HB := n4_; clear n0_ n1_ n2_ n3_ n4_; (try clear hb); (try clear hb2); (try clear hk); (try clear hi)) | ((with_reducible refine gate_callee (f := 26) rfl ?_); refine goesL_ (some 32) rfl rfl Try.func26 (by kernel_rfl) rfl #[.int .i64 a0, .int .i64 a1] rfl (by (try simp only [List.map_toArray, List.map_cons, List.map_nil]); first | done | rfl | (simp only [List.length_drop, List.length_take]; rfl)) ?_; (with_reducible refine (num_Sub.calls a0 a1 t244 t245 _ A7.out).mono ?_); rintro e w38 ⟨rfl, hb⟩; refine ⟨_, rfl, ?_⟩; have n0_ := Aside0.mk (Kd.R_below (by (with_reducible repeat (first | apply Kd.R_alloc | apply Kd.R_drewN | apply Kd.R_drew)); exact HO235.out) hb); have n1_ := Aside0.mk (Kd.R_below (by (with_reducible repeat (first | apply Kd.R_alloc | apply Kd.R_drewN | apply Kd.R_drew)); exact HO240.out) hb); have n2_ := Aside0.mk (blk_below (g := gb236) (o := .cells #[.bool t232, .slice Ao31 t233.length co31] 31 (0, 0)) (by (with_reducible repeat (first | refine blk_drewN ?_ _ | refine blk_drew ?_ | refine blk_alloc ?_ _)); exact BK236.out) hb); have n3_ := Aside0.mk (blk_below (g := gb241) (o := .cells #[.bool t237, .slice Ao36 t238.length co36] 31 (0, 0)) (by (with_reducible repeat (first | refine blk_drewN ?_ _ | refine blk_drew ?_ | refine blk_alloc ?_ _)); exact BK241.out) hb); have n4_ := Aside0.mk (below_step (by repeat (first | (with_reducible first | exact HB.out | apply below_alloc | apply pw_below_drewN | apply below_drew1 | refine below_set ?_ GE236.out | refine below_set ?_ GE241.out) | exact HB.out)) hb); clear HO235; clear HO240; clear BK236; clear BK241; clear HB; have HO235 := n0_; have HO240 := n1_; have BK236 := n2_; have BK241 := n3_; have HB := n4_; clear n0_ n1_ n2_ n3_ n4_; (try clear hb); (try clear hb2); (try clear hk); (try clear hi)) | ((with_reducible refine gate_callee (f := 28) rfl ?_); refine goesL_ (some 38) rfl rfl Try.func28 (by kernel_rfl) rfl #[.int .i64 a0, .int .i64 a1] rfl (by (try simp only [List.map_toArray, List.map_cons, List.map_nil]); first | done | rfl | (simp only [List.length_drop, List.length_take]; rfl)) ?_; (with_reducible refine (num_Mul.calls a0 a1 t246 t247 _ A8.out).mono ?_); rintro e w39 ⟨rfl, hb⟩; refine ⟨_, rfl, ?_⟩; have n0_ := Aside0.mk (Kd.R_below (by (with_reducible repeat (first | apply Kd.R_alloc | apply Kd.R_drewN | apply Kd.R_drew)); exact HO235.out) hb); have n1_ := Aside0.mk (Kd.R_below (by (with_reducible repeat (first | apply Kd.R_alloc | apply Kd.R_drewN | apply Kd.R_drew)); exact HO240.out) hb); have n2_ := Aside0.mk (blk_below (g := gb236) (o := .cells #[.bool t232, .slice Ao31 t233.length co31] 31 (0, 0)) (by (with_reducible repeat (first | refine blk_drewN ?_ _ | refine blk_drew ?_ | refine blk_alloc ?_ _)); exact BK236.out) hb); have n3_ := Aside0.mk (blk_below (g := gb241) (o := .cells #[.bool t237, .slice Ao36 t238.length co36] 31 (0, 0)) (by (with_reducible repeat (first | refine blk_drewN ?_ _ | refine blk_drew ?_ | refine blk_alloc ?_ _)); exact BK241.out) hb); have n4_ := Aside0.mk (below_step (by repeat (first | (with_reducible first | exact HB.out | apply below_alloc | apply pw_below_drewN | apply below_drew1 | refine below_set ?_ GE236.out | refine below_set ?_ GE241.out) | exact HB.out)) hb); clear HO235; clear HO240; clear BK236; clear BK241; clear HB; have HO235 := n0_; have HO240 := n1_; have BK236 := n2_; have BK241 := n3_; have HB := n4_; clear n0_ n1_ n2_ n3_ n4_; (try clear hb); (try clear hb2); (try clear hk); (try clear hi)) | ((with_reducible refine gate_callee (f := 29) rfl ?_); refine goesL_ (some 43) rfl rfl Try.func29 (by kernel_rfl) rfl #[.int .i64 a0] rfl (by (try simp only [List.map_toArray, List.map_cons, List.map_nil]); first | done | rfl | (simp only [List.length_drop, List.length_take]; rfl)) ?_; (with_reducible refine (num_Neg.calls a0 t248 t249 _ A9.out).mono ?_); rintro e w40 ⟨rfl, hb⟩; refine ⟨_, rfl, ?_⟩; have n0_ := Aside0.mk (Kd.R_below (by (with_reducible repeat (first | apply Kd.R_alloc | apply Kd.R_drewN | apply Kd.R_drew)); exact HO235.out) hb); have n1_ := Aside0.mk (Kd.R_below (by (with_reducible repeat (first | apply Kd.R_alloc | apply Kd.R_drewN | apply Kd.R_drew)); exact HO240.out) hb); have n2_ := Aside0.mk (blk_below (g := gb236) (o := .cells #[.bool t232, .slice Ao31 t233.length co31] 31 (0, 0)) (by (with_reducible repeat (first | refine blk_drewN ?_ _ | refine blk_drew ?_ | refine blk_alloc ?_ _)); exact BK236.out) hb); have n3_ := Aside0.mk (blk_below (g := gb241) (o := .cells #[.bool t237, .slice Ao36 t238.length co36] 31 (0, 0)) (by (with_reducible repeat (first | refine blk_drewN ?_ _ | refine blk_drew ?_ | refine blk_alloc ?_ _)); exact BK241.out) hb); have n4_ := Aside0.mk (below_step (by repeat (first | (with_reducible first | exact HB.out | apply below_alloc | apply pw_below_drewN | apply below_drew1 | refine below_set ?_ GE236.out | refine below_set ?_ GE241.out) | exact HB.out)) hb); clear HO235; clear HO240; clear BK236; clear BK241; clear HB; have HO235 := n0_; have HO240 := n1_; have BK236 := n2_; have BK241 := n3_; have HB := n4_; clear n0_ n1_ n2_ n3_ n4_; (try clear hb); (try clear hb2); (try clear hk); (try clear hi)) | ((with_reducible refine gate_callee (f := 25) rfl ?_); refine goesL_ (some 49) rfl rfl Try.func25 (by kernel_rfl) rfl #[.int .i64 a0, .int .i64 a1] rfl (by (try simp only [List.map_toArray, List.map_cons, List.map_nil]); first | done | rfl | (simp only [List.length_drop, List.length_take]; rfl)) ?_; (with_reducible refine (num_Gcd.calls a0 a1 t250 t251 _ A10.out).mono ?_); rintro e w41 ⟨rfl, hb⟩; refine ⟨_, rfl, ?_⟩; have n0_ := Aside0.mk (Kd.R_below (by (with_reducible repeat (first | apply Kd.R_alloc | apply Kd.R_drewN | apply Kd.R_drew)); exact HO235.out) hb); have n1_ := Aside0.mk (Kd.R_below (by (with_reducible repeat (first | apply Kd.R_alloc | apply Kd.R_drewN | apply Kd.R_drew)); exact HO240.out) hb); have n2_ := Aside0.mk (blk_below (g := gb236) (o := .cells #[.bool t232, .slice Ao31 t233.length co31] 31 (0, 0)) (by (with_reducible repeat (first | refine blk_drewN ?_ _ | refine blk_drew ?_ | refine blk_alloc ?_ _)); exact BK236.out) hb); have n3_ := Aside0.mk (blk_below (g := gb241) (o := .cells #[.bool t237, .slice Ao36 t238.length co36] 31 (0, 0)) (by (with_reducible repeat (first | refine blk_drewN ?_ _ | refine blk_drew ?_ | refine blk_alloc ?_ _)); exact BK241.out) hb); have n4_ := Aside0.mk (below_step (by repeat (first | (with_reducible first | exact HB.out | apply below_alloc | apply pw_below_drewN | apply below_drew1 | refine below_set ?_ GE236.out | refine below_set ?_ GE241.out) | exact HB.out)) hb); clear HO235; clear HO240; clear BK236; clear BK241; clear HB; have HO235 := n0_; have HO240 := n1_; have BK236 := n2_; have BK241 := n3_; have HB := n4_; clear n0_ n1_ n2_ n3_ n4_; (try clear hb); (try clear hb2); (try clear hk); (try clear hi)))
            have n0_ := Aside0.mk (Kd.R_drew HO235.out)
            have n1_ := Aside0.mk (Kd.R_drew HO240.out)
            have n2_ := Aside0.mk (blk_drew BK236.out)
            have n3_ := Aside0.mk (blk_drew BK241.out)
            have n4_ := Aside0.mk (below_drew1 HB.out)
            clear HO235
            clear HO240
            clear BK236
            clear BK241
            clear HB
            have HO235 := n0_
            have HO240 := n1_
            have BK236 := n2_
            have BK241 := n3_
            have HB := n4_
            clear n0_ n1_ n2_ n3_ n4_
            refine start_ (n := 42) (S := fun w' => w'.cell? ⟨gb236, 0, none⟩ = some (.bool t232) ∧ w'.cell? ⟨gb236, 1, none⟩ = some (.slice Ao31 t233.length co31) ∧ w'.cell? ⟨gb241, 0, none⟩ = some (.bool t237) ∧ w'.cell? ⟨gb241, 1, none⟩ = some (.slice Ao36 t238.length co36)) (ds := []) #[false, false, false, false, false, false, false, false, false, false, false, false, false, false, false, false, false, false, false, false, false, false, false, false, false, false, false, false, false, false, false, false, false, false, false, false, false, false, false, false, false, false] (by kernel_rfl) rfl rfl ⟨(blk_cell BK236.out 0).trans rfl, (blk_cell BK236.out 1).trans rfl, (blk_cell BK241.out 0).trans rfl, (blk_cell BK241.out 1).trans rfl⟩ (fun hHeld => ?_); refine with_tabW ashlarlaw01_NumWhole.tab9 ashlarlaw01_NumWhole.bits9 (fun HT_ HW_ => ?_)
            generalize w41.drew = w42 at HO235 HO240 BK236 BK241 HB hHeld ⊢
            refine pure_ (i := 0) (N := some 52) (v := ?_) (a' := ?_) #[true, false, false, false, false, false, false, false, false, false, false, false, false, false, false, false, false, false, false, false, false, false, false, false, false, false, false, false, false, false, false, false, false, false, false, false, false, false, false, false, false, false] rfl rfl (any_of HT_.out (by kernel_rfl)) (fun _ _ _ h => h) (Or.inl ⟨by rfl, ?_⟩) ?_ ?_
            rotate_left
            · intro w'
              go_simp
              with_reducible rfl
            rotate_left
            · simp only [Act.put, List.setIfInBounds_toArray, List.set_cons_zero, List.set_cons_succ, i64_w, i32_w]
              rfl
            refine pure_ (i := 1) (N := some 53) (v := ?_) (a' := ?_) #[true, true, false, false, false, false, false, false, false, false, false, false, false, false, false, false, false, false, false, false, false, false, false, false, false, false, false, false, false, false, false, false, false, false, false, false, false, false, false, false, false, false] rfl rfl (any_of HT_.out (by kernel_rfl)) (fun _ _ _ h => h) (Or.inl ⟨by rfl, ?_⟩) ?_ ?_
            rotate_left
            · intro w'
              go_simp
              with_reducible rfl
            rotate_left
            · simp only [Act.put, List.setIfInBounds_toArray, List.set_cons_zero, List.set_cons_succ, i64_w, i32_w]
              rfl
            refine pure_ (i := 5) (N := some 57) (v := ?_) (a' := ?_) #[true, true, false, false, false, true, false, false, false, false, false, false, false, false, false, false, false, false, false, false, false, false, false, false, false, false, false, false, false, false, false, false, false, false, false, false, false, false, false, false, false, false] rfl rfl (any_of HT_.out (by kernel_rfl)) (fun _ _ _ h => h) (Or.inl ⟨by rfl, ?_⟩) ?_ ?_
            rotate_left
            · intro w'
              go_simp
              with_reducible rfl
            rotate_left
            · simp only [Act.put, List.setIfInBounds_toArray, List.set_cons_zero, List.set_cons_succ, i64_w, i32_w]
              rfl
            refine pure_ (i := 6) (N := some 58) (v := ?_) (a' := ?_) #[true, true, false, false, false, true, true, false, false, false, false, false, false, false, false, false, false, false, false, false, false, false, false, false, false, false, false, false, false, false, false, false, false, false, false, false, false, false, false, false, false, false] rfl rfl (any_of HT_.out (by kernel_rfl)) (fun _ _ _ h => h) (Or.inl ⟨by rfl, ?_⟩) ?_ ?_
            rotate_left
            · intro w'
              go_simp
              with_reducible rfl
            rotate_left
            · simp only [Act.put, List.setIfInBounds_toArray, List.set_cons_zero, List.set_cons_succ, i64_w, i32_w]
              rfl
            refine take_ (i := 2) (N := some 54) (v := ?_) (a' := ?_) #[true, true, true, false, false, true, true, false, false, false, false, false, false, false, false, false, false, false, false, false, false, false, false, false, false, false, false, false, false, false, false, false, false, false, false, false, false, false, false, false, false, false] rfl rfl (take_ofW HT_.out HW_.out (by kernel_rfl)) (fun _ _ _ h => h) (Or.inl ⟨by rfl, ?_⟩) hHeld ?_ ?_
            rotate_left
            · rintro w' ⟨s0, s1, s2, s3⟩
              go_simp
              with_reducible rfl
            rotate_left
            · simp only [Act.put, List.setIfInBounds_toArray, List.set_cons_zero, List.set_cons_succ, i64_w, i32_w]
              rfl
            refine take_ (i := 3) (N := some 55) (v := ?_) (a' := ?_) #[true, true, true, true, false, true, true, false, false, false, false, false, false, false, false, false, false, false, false, false, false, false, false, false, false, false, false, false, false, false, false, false, false, false, false, false, false, false, false, false, false, false] rfl rfl (take_ofW HT_.out HW_.out (by kernel_rfl)) (fun _ _ _ h => h) (Or.inl ⟨by rfl, ?_⟩) hHeld ?_ ?_
            rotate_left
            · rintro w' ⟨s0, s1, s2, s3⟩
              go_simp
              with_reducible rfl
            rotate_left
            · simp only [Act.put, List.setIfInBounds_toArray, List.set_cons_zero, List.set_cons_succ, i64_w, i32_w]
              rfl
            refine one_ (i := 4) (N := some 56) #[true, true, true, true, true, true, true, false, false, false, false, false, false, false, false, false, false, false, false, false, false, false, false, false, false, false, false, false, false, false, false, false, false, false, false, false, false, false, false, false, false, false] rfl rfl (one_of HT_.out (by kernel_rfl)) (by decide) (fun K hK => ?_)
            refine goes_ Try.func31 (by kernel_rfl) rfl #[.agg #[.bool t232, .slice Ao31 t233.length co31], .agg #[.bool t237, .slice Ao36 t238.length co36]] (by rfl) rfl rfl (by (try simp only [List.map_toArray, List.map_cons, List.map_nil]); first | done | rfl | (simp only [List.length_drop, List.length_take]; rfl)) ?_
            with_reducible refine (ashlarref01_Plus.calls k t232 _ _ t233 t237 _ _ t238 t252 t253 _ ?side1 ?side2 ?side3 ?side4 A12.out).mono ?_
            (case side1 => repeat (first | exact (Kd.R_reads' HO235.out).2.2 | (with_reducible refine Kd.C_alloc ?_ _) | (with_reducible refine Kd.C_drewN ?_ _) | (with_reducible refine Kd.C_drew ?_)))
            (case side2 => exact (Kd.R_reads' HO235.out).2.1)
            (case side3 => repeat (first | exact (Kd.R_reads' HO240.out).2.2 | (with_reducible refine Kd.C_alloc ?_ _) | (with_reducible refine Kd.C_drewN ?_ _) | (with_reducible refine Kd.C_drew ?_)))
            (case side4 => exact (Kd.R_reads' HO240.out).2.1)
            rintro e w43 ⟨v254, rfl, ho0, hb⟩
            refine ⟨_, rfl, ?_⟩
            have n0_ := Aside0.mk (Kd.R_below (by (with_reducible repeat (first | apply Kd.R_alloc | apply Kd.R_drewN | apply Kd.R_drew)); exact HO235.out) hb)
            have n1_ := Aside0.mk (Kd.R_below (by (with_reducible repeat (first | apply Kd.R_alloc | apply Kd.R_drewN | apply Kd.R_drew)); exact HO240.out) hb)
            have n2_ := Aside0.mk (Kd.V_lower (Kd.V_mono (ok' := fun k_ => some k_ ≠ (.slice Ao31 t233.length co31 : Value).ownBlock ∧ some k_ ≠ (.slice Ao36 t238.length co36 : Value).ownBlock ∧ k_ ≠ gb236 ∧ k_ ≠ gb241) ho0 (fun k_ hk_ => ⟨(Kd.fresh' (Kd.R_lt (by (with_reducible repeat (first | apply Kd.R_alloc | apply Kd.R_drewN | apply Kd.R_drew)); exact HO235.out)) k_ hk_), (Kd.fresh' (Kd.R_lt (by (with_reducible repeat (first | apply Kd.R_alloc | apply Kd.R_drewN | apply Kd.R_drew)); exact HO240.out)) k_ hk_), (Kd.freshB (g := gb236) (o := .cells #[.bool t232, .slice Ao31 t233.length co31] 31 (0, 0)) (by (with_reducible repeat (first | refine blk_drewN ?_ _ | refine blk_drew ?_ | refine blk_alloc ?_ _)); exact BK236.out) k_ hk_), (Kd.freshB (g := gb241) (o := .cells #[.bool t237, .slice Ao36 t238.length co36] 31 (0, 0)) (by (with_reducible repeat (first | refine blk_drewN ?_ _ | refine blk_drew ?_ | refine blk_alloc ?_ _)); exact BK241.out) k_ hk_)⟩)) (below_size (by repeat (first | (with_reducible first | exact HB.out | apply below_alloc | apply pw_below_drewN | apply below_drew1 | refine below_set ?_ GE236.out | refine below_set ?_ GE241.out) | exact HB.out))))
            have n3_ := Aside0.mk (blk_below (g := gb236) (o := .cells #[.bool t232, .slice Ao31 t233.length co31] 31 (0, 0)) (by (with_reducible repeat (first | refine blk_drewN ?_ _ | refine blk_drew ?_ | refine blk_alloc ?_ _)); exact BK236.out) hb)
            have n4_ := Aside0.mk (blk_below (g := gb241) (o := .cells #[.bool t237, .slice Ao36 t238.length co36] 31 (0, 0)) (by (with_reducible repeat (first | refine blk_drewN ?_ _ | refine blk_drew ?_ | refine blk_alloc ?_ _)); exact BK241.out) hb)
            have n5_ := Aside0.mk (below_step (by repeat (first | (with_reducible first | exact HB.out | apply below_alloc | apply pw_below_drewN | apply below_drew1 | refine below_set ?_ GE236.out | refine below_set ?_ GE241.out) | exact HB.out)) hb)
            clear HO235
            clear HO240
            clear BK236
            clear BK241
            clear HB
            have HO235 := n0_
            have HO240 := n1_
            have HO255 := n2_
            have BK236 := n3_
            have BK241 := n4_
            have HB := n5_
            clear n0_ n1_ n2_ n3_ n4_ n5_
            (try clear hb)
            (try clear hb2)
            (try clear hk)
            (try clear hi)
            (try clear ho0)
            obtain ⟨Ao44, co44, eo44⟩ := Kd.V_slice HO255.out
            (first | subst eo44 | (injection eo44 with f1_ f2_ f3_; have f4_ := f1_.symm; have f5_ := f3_.symm; clear f1_ f2_ f3_; subst f4_; subst f5_))
            refine hK.out _ _ ⟨(blk_cell BK236.out 0).trans rfl, (blk_cell BK236.out 1).trans rfl, (blk_cell BK241.out 0).trans rfl, (blk_cell BK241.out 1).trans rfl⟩ (fun hHeld => ?_)
            clear hK K
            refine norm_ (a' := ?_) ?_ ?_
            rotate_left
            · show Act.put _ (some 56) _ = _
              simp only [Act.put, List.setIfInBounds_toArray, List.set_cons_zero, List.set_cons_succ, i64_w, i32_w]
              rfl
            refine one_ (i := 7) (N := some 59) #[true, true, true, true, true, true, true, true, false, false, false, false, false, false, false, false, false, false, false, false, false, false, false, false, false, false, false, false, false, false, false, false, false, false, false, false, false, false, false, false, false, false] rfl rfl (one_of HT_.out (by kernel_rfl)) (by decide) (fun K hK => ?_)
            refine goes_ Try.func30 (by kernel_rfl) rfl #[.agg #[.bool t252, .slice Ao44 t253.length co44], .int .i64 t242, .bool t243] (by rfl) rfl rfl (by (try simp only [List.map_toArray, List.map_cons, List.map_nil]); first | done | rfl | (simp only [List.length_drop, List.length_take]; rfl)) ?_
            with_reducible refine (ashlarlaw01_fits.calls k t252 _ _ t253 t242 t243 true _ ?side1 ?side2 A13.out).mono ?_
            (case side1 => repeat (first | exact (Kd.V_reads' HO255.out).2.2 | (with_reducible refine Kd.C_alloc ?_ _) | (with_reducible refine Kd.C_drewN ?_ _) | (with_reducible refine Kd.C_drew ?_)))
            (case side2 => exact (Kd.V_reads' HO255.out).2.1)
            rintro e w45 ⟨rfl, hb⟩
            refine ⟨_, rfl, ?_⟩
            have n0_ := Aside0.mk (Kd.R_below (by (with_reducible repeat (first | apply Kd.R_alloc | apply Kd.R_drewN | apply Kd.R_drew)); exact HO235.out) hb)
            have n1_ := Aside0.mk (Kd.R_below (by (with_reducible repeat (first | apply Kd.R_alloc | apply Kd.R_drewN | apply Kd.R_drew)); exact HO240.out) hb)
            have n2_ := Aside0.mk (Kd.V_below (by (with_reducible repeat (first | apply Kd.V_alloc | apply Kd.V_drewN | apply Kd.V_drew)); exact HO255.out) hb)
            have n3_ := Aside0.mk (blk_below (g := gb236) (o := .cells #[.bool t232, .slice Ao31 t233.length co31] 31 (0, 0)) (by (with_reducible repeat (first | refine blk_drewN ?_ _ | refine blk_drew ?_ | refine blk_alloc ?_ _)); exact BK236.out) hb)
            have n4_ := Aside0.mk (blk_below (g := gb241) (o := .cells #[.bool t237, .slice Ao36 t238.length co36] 31 (0, 0)) (by (with_reducible repeat (first | refine blk_drewN ?_ _ | refine blk_drew ?_ | refine blk_alloc ?_ _)); exact BK241.out) hb)
            have n5_ := Aside0.mk (below_step (by repeat (first | (with_reducible first | exact HB.out | apply below_alloc | apply pw_below_drewN | apply below_drew1 | refine below_set ?_ GE236.out | refine below_set ?_ GE241.out) | exact HB.out)) hb)
            clear HO235
            clear HO240
            clear HO255
            clear BK236
            clear BK241
            clear HB
            have HO235 := n0_
            have HO240 := n1_
            have HO255 := n2_
            have BK236 := n3_
            have BK241 := n4_
            have HB := n5_
            clear n0_ n1_ n2_ n3_ n4_ n5_
            (try clear hb)
            (try clear hb2)
            (try clear hk)
            (try clear hi)
            refine hK.out _ _ ⟨(blk_cell BK236.out 0).trans rfl, (blk_cell BK236.out 1).trans rfl, (blk_cell BK241.out 0).trans rfl, (blk_cell BK241.out 1).trans rfl⟩ (fun hHeld => ?_)
            clear hK K
            refine norm_ (a' := ?_) ?_ ?_
            rotate_left
            · show Act.put _ (some 59) _ = _
              simp only [Act.put, List.setIfInBounds_toArray, List.set_cons_zero, List.set_cons_succ, i64_w, i32_w]
              rfl
            refine pure_ (i := 8) (N := some 60) (v := ?_) (a' := ?_) #[true, true, true, true, true, true, true, true, true, false, false, false, false, false, false, false, false, false, false, false, false, false, false, false, false, false, false, false, false, false, false, false, false, false, false, false, false, false, false, false, false, false] rfl rfl (any_of HT_.out (by kernel_rfl)) (fun _ _ _ h => h) (Or.inl ⟨by rfl, ?_⟩) ?_ ?_
            rotate_left
            · intro w'
              go_simp
              with_reducible rfl
            rotate_left
            · simp only [Act.put, List.setIfInBounds_toArray, List.set_cons_zero, List.set_cons_succ, i64_w, i32_w]
              rfl
            refine pure_ (i := 9) (N := some 61) (v := ?_) (a' := ?_) #[true, true, true, true, true, true, true, true, true, true, false, false, false, false, false, false, false, false, false, false, false, false, false, false, false, false, false, false, false, false, false, false, false, false, false, false, false, false, false, false, false, false] rfl rfl (any_of HT_.out (by kernel_rfl)) (fun _ _ _ h => h) (Or.inl ⟨by rfl, ?_⟩) ?_ ?_
            rotate_left
            · intro w'
              go_simp
              with_reducible rfl
            rotate_left
            · simp only [Act.put, List.setIfInBounds_toArray, List.set_cons_zero, List.set_cons_succ, i64_w, i32_w]
              rfl
            refine pure_ (i := 14) (N := some 66) (v := ?_) (a' := ?_) #[true, true, true, true, true, true, true, true, true, true, false, false, false, false, true, false, false, false, false, false, false, false, false, false, false, false, false, false, false, false, false, false, false, false, false, false, false, false, false, false, false, false] rfl rfl (any_of HT_.out (by kernel_rfl)) (fun _ _ _ h => h) (Or.inl ⟨by rfl, ?_⟩) ?_ ?_
            rotate_left
            · intro w'
              go_simp
              with_reducible rfl
            rotate_left
            · simp only [Act.put, List.setIfInBounds_toArray, List.set_cons_zero, List.set_cons_succ, i64_w, i32_w]
              rfl
            refine pure_ (i := 15) (N := some 67) (v := ?_) (a' := ?_) #[true, true, true, true, true, true, true, true, true, true, false, false, false, false, true, true, false, false, false, false, false, false, false, false, false, false, false, false, false, false, false, false, false, false, false, false, false, false, false, false, false, false] rfl rfl (any_of HT_.out (by kernel_rfl)) (fun _ _ _ h => h) (Or.inl ⟨by rfl, ?_⟩) ?_ ?_
            rotate_left
            · intro w'
              go_simp
              with_reducible rfl
            rotate_left
            · simp only [Act.put, List.setIfInBounds_toArray, List.set_cons_zero, List.set_cons_succ, i64_w, i32_w]
              rfl
            refine take_ (i := 10) (N := some 62) (v := ?_) (a' := ?_) #[true, true, true, true, true, true, true, true, true, true, true, false, false, false, true, true, false, false, false, false, false, false, false, false, false, false, false, false, false, false, false, false, false, false, false, false, false, false, false, false, false, false] rfl rfl (take_ofW HT_.out HW_.out (by kernel_rfl)) (fun _ _ _ h => h) (Or.inl ⟨by rfl, ?_⟩) hHeld ?_ ?_
            rotate_left
            · rintro w' ⟨s0, s1, s2, s3⟩
              go_simp
              with_reducible rfl
            rotate_left
            · simp only [Act.put, List.setIfInBounds_toArray, List.set_cons_zero, List.set_cons_succ, i64_w, i32_w]
              rfl
            refine take_ (i := 11) (N := some 63) (v := ?_) (a' := ?_) #[true, true, true, true, true, true, true, true, true, true, true, true, false, false, true, true, false, false, false, false, false, false, false, false, false, false, false, false, false, false, false, false, false, false, false, false, false, false, false, false, false, false] rfl rfl (take_ofW HT_.out HW_.out (by kernel_rfl)) (fun _ _ _ h => h) (Or.inl ⟨by rfl, ?_⟩) hHeld ?_ ?_
            rotate_left
            · rintro w' ⟨s0, s1, s2, s3⟩
              go_simp
              with_reducible rfl
            rotate_left
            · simp only [Act.put, List.setIfInBounds_toArray, List.set_cons_zero, List.set_cons_succ, i64_w, i32_w]
              rfl
            refine one_ (i := 12) (N := some 64) #[true, true, true, true, true, true, true, true, true, true, true, true, true, false, true, true, false, false, false, false, false, false, false, false, false, false, false, false, false, false, false, false, false, false, false, false, false, false, false, false, false, false] rfl rfl (one_of HT_.out (by kernel_rfl)) (by decide) (fun K hK => ?_)
            refine goes_ Try.func32 (by kernel_rfl) rfl #[.agg #[.bool t237, .slice Ao36 t238.length co36]] (by rfl) rfl rfl (by (try simp only [List.map_toArray, List.map_cons, List.map_nil]); first | done | rfl | (simp only [List.length_drop, List.length_take]; rfl)) ?_
            with_reducible refine (ashlarref01_Turn.calls t237 (fun k_ => some k_ = (.slice Ao36 t238.length co36 : Value).ownBlock) _ _ t238 t257 t258 _ ?side1 A15.out).mono ?_
            (case side1 => exact Kd.R_V (Kd.R_tight rfl (Kd.R_types (Kd.R_types (HO240.out) BK236.out (by decide)) BK241.out (by decide))))
            rintro e w46 ⟨v259, rfl, ho0, hb⟩
            refine ⟨_, rfl, ?_⟩
            have n0_ := Aside0.mk (Kd.R_below (by (with_reducible repeat (first | apply Kd.R_alloc | apply Kd.R_drewN | apply Kd.R_drew)); exact HO235.out) hb)
            have n1_ := Aside0.mk (Kd.R_below (by (with_reducible repeat (first | apply Kd.R_alloc | apply Kd.R_drewN | apply Kd.R_drew)); exact HO240.out) hb)
            have n2_ := Aside0.mk (Kd.V_below (by (with_reducible repeat (first | apply Kd.V_alloc | apply Kd.V_drewN | apply Kd.V_drew)); exact HO255.out) hb)
            have n3_ := Aside0.mk (Kd.V_lower (Kd.V_mono (ok' := fun k_ => some k_ ≠ (.slice Ao31 t233.length co31 : Value).ownBlock ∧ k_ ≠ gb236 ∧ k_ ≠ gb241) ho0 (fun k_ hk_ => ⟨Or.elim hk_ (fun hs_ => ((Kd.R_types (Kd.R_types (HO240.out) BK236.out (by decide)) BK241.out (by decide)).1 k_ hs_.symm).1.1.2) (fun hn_ => (Kd.fresh' (Kd.R_lt (by (with_reducible repeat (first | apply Kd.R_alloc | apply Kd.R_drewN | apply Kd.R_drew)); exact HO235.out)) k_ hn_)), Or.elim hk_ (fun hs_ => ((Kd.R_types (Kd.R_types (HO240.out) BK236.out (by decide)) BK241.out (by decide)).1 k_ hs_.symm).1.2) (fun hn_ => (Kd.freshB (g := gb236) (o := .cells #[.bool t232, .slice Ao31 t233.length co31] 31 (0, 0)) (by (with_reducible repeat (first | refine blk_drewN ?_ _ | refine blk_drew ?_ | refine blk_alloc ?_ _)); exact BK236.out) k_ hn_)), Or.elim hk_ (fun hs_ => ((Kd.R_types (Kd.R_types (HO240.out) BK236.out (by decide)) BK241.out (by decide)).1 k_ hs_.symm).2) (fun hn_ => (Kd.freshB (g := gb241) (o := .cells #[.bool t237, .slice Ao36 t238.length co36] 31 (0, 0)) (by (with_reducible repeat (first | refine blk_drewN ?_ _ | refine blk_drew ?_ | refine blk_alloc ?_ _)); exact BK241.out) k_ hn_))⟩)) (below_size (by repeat (first | (with_reducible first | exact HB.out | apply below_alloc | apply pw_below_drewN | apply below_drew1 | refine below_set ?_ GE236.out | refine below_set ?_ GE241.out) | exact HB.out))))
            have n4_ := Aside0.mk (blk_below (g := gb236) (o := .cells #[.bool t232, .slice Ao31 t233.length co31] 31 (0, 0)) (by (with_reducible repeat (first | refine blk_drewN ?_ _ | refine blk_drew ?_ | refine blk_alloc ?_ _)); exact BK236.out) hb)
            have n5_ := Aside0.mk (blk_below (g := gb241) (o := .cells #[.bool t237, .slice Ao36 t238.length co36] 31 (0, 0)) (by (with_reducible repeat (first | refine blk_drewN ?_ _ | refine blk_drew ?_ | refine blk_alloc ?_ _)); exact BK241.out) hb)
            have n6_ := Aside0.mk (below_step (by repeat (first | (with_reducible first | exact HB.out | apply below_alloc | apply pw_below_drewN | apply below_drew1 | refine below_set ?_ GE236.out | refine below_set ?_ GE241.out) | exact HB.out)) hb)
            clear HO235
            clear HO240
            clear HO255
            clear BK236
            clear BK241
            clear HB
            have HO235 := n0_
            have HO240 := n1_
            have HO255 := n2_
            have HO260 := n3_
            have BK236 := n4_
            have BK241 := n5_
            have HB := n6_
            clear n0_ n1_ n2_ n3_ n4_ n5_ n6_
            (try clear hb)
            (try clear hb2)
            (try clear hk)
            (try clear hi)
            (try clear ho0)
            obtain ⟨Ao47, co47, eo47⟩ := Kd.V_slice HO260.out
            (first | subst eo47 | (injection eo47 with f1_ f2_ f3_; have f4_ := f1_.symm; have f5_ := f3_.symm; clear f1_ f2_ f3_; subst f4_; subst f5_))
            refine hK.out _ _ ⟨(blk_cell BK236.out 0).trans rfl, (blk_cell BK236.out 1).trans rfl, (blk_cell BK241.out 0).trans rfl, (blk_cell BK241.out 1).trans rfl⟩ (fun hHeld => ?_)
            clear hK K
            refine norm_ (a' := ?_) ?_ ?_
            rotate_left
            · show Act.put _ (some 64) _ = _
              simp only [Act.put, List.setIfInBounds_toArray, List.set_cons_zero, List.set_cons_succ, i64_w, i32_w]
              rfl
            refine one_ (i := 13) (N := some 65) #[true, true, true, true, true, true, true, true, true, true, true, true, true, true, true, true, false, false, false, false, false, false, false, false, false, false, false, false, false, false, false, false, false, false, false, false, false, false, false, false, false, false] rfl rfl (one_of HT_.out (by kernel_rfl)) (by decide) (fun K hK => ?_)
            refine goes_ Try.func31 (by kernel_rfl) rfl #[.agg #[.bool t232, .slice Ao31 t233.length co31], .agg #[.bool t257, .slice Ao47 t258.length co47]] (by rfl) rfl rfl (by (try simp only [List.map_toArray, List.map_cons, List.map_nil]); first | done | rfl | (simp only [List.length_drop, List.length_take]; rfl)) ?_
            with_reducible refine (ashlarref01_Plus.calls k t232 _ _ t233 t257 _ _ t258 t261 t262 _ ?side1 ?side2 ?side3 ?side4 A16.out).mono ?_
            (case side1 => repeat (first | exact (Kd.R_reads' HO235.out).2.2 | (with_reducible refine Kd.C_alloc ?_ _) | (with_reducible refine Kd.C_drewN ?_ _) | (with_reducible refine Kd.C_drew ?_)))
            (case side2 => exact (Kd.R_reads' HO235.out).2.1)
            (case side3 => repeat (first | exact (Kd.V_reads' HO260.out).2.2 | (with_reducible refine Kd.C_alloc ?_ _) | (with_reducible refine Kd.C_drewN ?_ _) | (with_reducible refine Kd.C_drew ?_)))
            (case side4 => exact (Kd.V_reads' HO260.out).2.1)
            rintro e w48 ⟨v263, rfl, ho0, hb⟩
            refine ⟨_, rfl, ?_⟩
            have n0_ := Aside0.mk (Kd.R_below (by (with_reducible repeat (first | apply Kd.R_alloc | apply Kd.R_drewN | apply Kd.R_drew)); exact HO235.out) hb)
            have n1_ := Aside0.mk (Kd.R_below (by (with_reducible repeat (first | apply Kd.R_alloc | apply Kd.R_drewN | apply Kd.R_drew)); exact HO240.out) hb)
            have n2_ := Aside0.mk (Kd.V_below (by (with_reducible repeat (first | apply Kd.V_alloc | apply Kd.V_drewN | apply Kd.V_drew)); exact HO255.out) hb)
            have n3_ := Aside0.mk (Kd.V_below (by (with_reducible repeat (first | apply Kd.V_alloc | apply Kd.V_drewN | apply Kd.V_drew)); exact HO260.out) hb)
            have n4_ := Aside0.mk (Kd.V_lower (Kd.V_mono (ok' := fun k_ => some k_ ≠ (.slice Ao31 t233.length co31 : Value).ownBlock ∧ some k_ ≠ (.slice Ao36 t238.length co36 : Value).ownBlock ∧ k_ ≠ gb236 ∧ k_ ≠ gb241) ho0 (fun k_ hk_ => ⟨(Kd.fresh' (Kd.R_lt (by (with_reducible repeat (first | apply Kd.R_alloc | apply Kd.R_drewN | apply Kd.R_drew)); exact HO235.out)) k_ hk_), (Kd.fresh' (Kd.R_lt (by (with_reducible repeat (first | apply Kd.R_alloc | apply Kd.R_drewN | apply Kd.R_drew)); exact HO240.out)) k_ hk_), (Kd.freshB (g := gb236) (o := .cells #[.bool t232, .slice Ao31 t233.length co31] 31 (0, 0)) (by (with_reducible repeat (first | refine blk_drewN ?_ _ | refine blk_drew ?_ | refine blk_alloc ?_ _)); exact BK236.out) k_ hk_), (Kd.freshB (g := gb241) (o := .cells #[.bool t237, .slice Ao36 t238.length co36] 31 (0, 0)) (by (with_reducible repeat (first | refine blk_drewN ?_ _ | refine blk_drew ?_ | refine blk_alloc ?_ _)); exact BK241.out) k_ hk_)⟩)) (below_size (by repeat (first | (with_reducible first | exact HB.out | apply below_alloc | apply pw_below_drewN | apply below_drew1 | refine below_set ?_ GE236.out | refine below_set ?_ GE241.out) | exact HB.out))))
            have n5_ := Aside0.mk (blk_below (g := gb236) (o := .cells #[.bool t232, .slice Ao31 t233.length co31] 31 (0, 0)) (by (with_reducible repeat (first | refine blk_drewN ?_ _ | refine blk_drew ?_ | refine blk_alloc ?_ _)); exact BK236.out) hb)
            have n6_ := Aside0.mk (blk_below (g := gb241) (o := .cells #[.bool t237, .slice Ao36 t238.length co36] 31 (0, 0)) (by (with_reducible repeat (first | refine blk_drewN ?_ _ | refine blk_drew ?_ | refine blk_alloc ?_ _)); exact BK241.out) hb)
            have n7_ := Aside0.mk (below_step (by repeat (first | (with_reducible first | exact HB.out | apply below_alloc | apply pw_below_drewN | apply below_drew1 | refine below_set ?_ GE236.out | refine below_set ?_ GE241.out) | exact HB.out)) hb)
            clear HO235
            clear HO240
            clear HO255
            clear HO260
            clear BK236
            clear BK241
            clear HB
            have HO235 := n0_
            have HO240 := n1_
            have HO255 := n2_
            have HO260 := n3_
            have HO264 := n4_
            have BK236 := n5_
            have BK241 := n6_
            have HB := n7_
            clear n0_ n1_ n2_ n3_ n4_ n5_ n6_ n7_
            (try clear hb)
            (try clear hb2)
            (try clear hk)
            (try clear hi)
            (try clear ho0)
            obtain ⟨Ao49, co49, eo49⟩ := Kd.V_slice HO264.out
            (first | subst eo49 | (injection eo49 with f1_ f2_ f3_; have f4_ := f1_.symm; have f5_ := f3_.symm; clear f1_ f2_ f3_; subst f4_; subst f5_))
            refine hK.out _ _ ⟨(blk_cell BK236.out 0).trans rfl, (blk_cell BK236.out 1).trans rfl, (blk_cell BK241.out 0).trans rfl, (blk_cell BK241.out 1).trans rfl⟩ (fun hHeld => ?_)
            clear hK K
            refine norm_ (a' := ?_) ?_ ?_
            rotate_left
            · show Act.put _ (some 65) _ = _
              simp only [Act.put, List.setIfInBounds_toArray, List.set_cons_zero, List.set_cons_succ, i64_w, i32_w]
              rfl
            refine one_ (i := 16) (N := some 68) #[true, true, true, true, true, true, true, true, true, true, true, true, true, true, true, true, true, false, false, false, false, false, false, false, false, false, false, false, false, false, false, false, false, false, false, false, false, false, false, false, false, false] rfl rfl (one_of HT_.out (by kernel_rfl)) (by decide) (fun K hK => ?_)
            refine goes_ Try.func30 (by kernel_rfl) rfl #[.agg #[.bool t261, .slice Ao49 t262.length co49], .int .i64 t244, .bool t245] (by rfl) rfl rfl (by (try simp only [List.map_toArray, List.map_cons, List.map_nil]); first | done | rfl | (simp only [List.length_drop, List.length_take]; rfl)) ?_
            with_reducible refine (ashlarlaw01_fits.calls k t261 _ _ t262 t244 t245 true _ ?side1 ?side2 A17.out).mono ?_
            (case side1 => repeat (first | exact (Kd.V_reads' HO264.out).2.2 | (with_reducible refine Kd.C_alloc ?_ _) | (with_reducible refine Kd.C_drewN ?_ _) | (with_reducible refine Kd.C_drew ?_)))
            (case side2 => exact (Kd.V_reads' HO264.out).2.1)
            rintro e w50 ⟨rfl, hb⟩
            refine ⟨_, rfl, ?_⟩
            have n0_ := Aside0.mk (Kd.R_below (by (with_reducible repeat (first | apply Kd.R_alloc | apply Kd.R_drewN | apply Kd.R_drew)); exact HO235.out) hb)
            have n1_ := Aside0.mk (Kd.R_below (by (with_reducible repeat (first | apply Kd.R_alloc | apply Kd.R_drewN | apply Kd.R_drew)); exact HO240.out) hb)
            have n2_ := Aside0.mk (Kd.V_below (by (with_reducible repeat (first | apply Kd.V_alloc | apply Kd.V_drewN | apply Kd.V_drew)); exact HO255.out) hb)
            have n3_ := Aside0.mk (Kd.V_below (by (with_reducible repeat (first | apply Kd.V_alloc | apply Kd.V_drewN | apply Kd.V_drew)); exact HO260.out) hb)
            have n4_ := Aside0.mk (Kd.V_below (by (with_reducible repeat (first | apply Kd.V_alloc | apply Kd.V_drewN | apply Kd.V_drew)); exact HO264.out) hb)
            have n5_ := Aside0.mk (blk_below (g := gb236) (o := .cells #[.bool t232, .slice Ao31 t233.length co31] 31 (0, 0)) (by (with_reducible repeat (first | refine blk_drewN ?_ _ | refine blk_drew ?_ | refine blk_alloc ?_ _)); exact BK236.out) hb)
            have n6_ := Aside0.mk (blk_below (g := gb241) (o := .cells #[.bool t237, .slice Ao36 t238.length co36] 31 (0, 0)) (by (with_reducible repeat (first | refine blk_drewN ?_ _ | refine blk_drew ?_ | refine blk_alloc ?_ _)); exact BK241.out) hb)
            have n7_ := Aside0.mk (below_step (by repeat (first | (with_reducible first | exact HB.out | apply below_alloc | apply pw_below_drewN | apply below_drew1 | refine below_set ?_ GE236.out | refine below_set ?_ GE241.out) | exact HB.out)) hb)
            clear HO235
            clear HO240
            clear HO255
            clear HO260
            clear HO264
            clear BK236
            clear BK241
            clear HB
            have HO235 := n0_
            have HO240 := n1_
            have HO255 := n2_
            have HO260 := n3_
            have HO264 := n4_
            have BK236 := n5_
            have BK241 := n6_
            have HB := n7_
            clear n0_ n1_ n2_ n3_ n4_ n5_ n6_ n7_
            (try clear hb)
            (try clear hb2)
            (try clear hk)
            (try clear hi)
            refine hK.out _ _ ⟨(blk_cell BK236.out 0).trans rfl, (blk_cell BK236.out 1).trans rfl, (blk_cell BK241.out 0).trans rfl, (blk_cell BK241.out 1).trans rfl⟩ (fun hHeld => ?_)
            clear hK K
            refine norm_ (a' := ?_) ?_ ?_
            rotate_left
            · show Act.put _ (some 68) _ = _
              simp only [Act.put, List.setIfInBounds_toArray, List.set_cons_zero, List.set_cons_succ, i64_w, i32_w]
              rfl
            refine pure_ (i := 17) (N := some 69) (v := ?_) (a' := ?_) #[true, true, true, true, true, true, true, true, true, true, true, true, true, true, true, true, true, true, false, false, false, false, false, false, false, false, false, false, false, false, false, false, false, false, false, false, false, false, false, false, false, false] rfl rfl (any_of HT_.out (by kernel_rfl)) (fun _ _ _ h => h) (Or.inl ⟨by rfl, ?_⟩) ?_ ?_
            rotate_left
            · intro w'
              go_simp
              with_reducible rfl
            rotate_left
            · simp only [Act.put, List.setIfInBounds_toArray, List.set_cons_zero, List.set_cons_succ, i64_w, i32_w]
              rfl
            refine pure_ (i := 18) (N := some 70) (v := ?_) (a' := ?_) #[true, true, true, true, true, true, true, true, true, true, true, true, true, true, true, true, true, true, true, false, false, false, false, false, false, false, false, false, false, false, false, false, false, false, false, false, false, false, false, false, false, false] rfl rfl (any_of HT_.out (by kernel_rfl)) (fun _ _ _ h => h) (Or.inl ⟨by rfl, ?_⟩) ?_ ?_
            rotate_left
            · intro w'
              go_simp
              with_reducible rfl
            rotate_left
            · simp only [Act.put, List.setIfInBounds_toArray, List.set_cons_zero, List.set_cons_succ, i64_w, i32_w]
              rfl
            refine pure_ (i := 22) (N := some 74) (v := ?_) (a' := ?_) #[true, true, true, true, true, true, true, true, true, true, true, true, true, true, true, true, true, true, true, false, false, false, true, false, false, false, false, false, false, false, false, false, false, false, false, false, false, false, false, false, false, false] rfl rfl (any_of HT_.out (by kernel_rfl)) (fun _ _ _ h => h) (Or.inl ⟨by rfl, ?_⟩) ?_ ?_
            rotate_left
            · intro w'
              go_simp
              with_reducible rfl
            rotate_left
            · simp only [Act.put, List.setIfInBounds_toArray, List.set_cons_zero, List.set_cons_succ, i64_w, i32_w]
              rfl
            refine pure_ (i := 23) (N := some 75) (v := ?_) (a' := ?_) #[true, true, true, true, true, true, true, true, true, true, true, true, true, true, true, true, true, true, true, false, false, false, true, true, false, false, false, false, false, false, false, false, false, false, false, false, false, false, false, false, false, false] rfl rfl (any_of HT_.out (by kernel_rfl)) (fun _ _ _ h => h) (Or.inl ⟨by rfl, ?_⟩) ?_ ?_
            rotate_left
            · intro w'
              go_simp
              with_reducible rfl
            rotate_left
            · simp only [Act.put, List.setIfInBounds_toArray, List.set_cons_zero, List.set_cons_succ, i64_w, i32_w]
              rfl
            refine take_ (i := 19) (N := some 71) (v := ?_) (a' := ?_) #[true, true, true, true, true, true, true, true, true, true, true, true, true, true, true, true, true, true, true, true, false, false, true, true, false, false, false, false, false, false, false, false, false, false, false, false, false, false, false, false, false, false] rfl rfl (take_ofW HT_.out HW_.out (by kernel_rfl)) (fun _ _ _ h => h) (Or.inl ⟨by rfl, ?_⟩) hHeld ?_ ?_
            rotate_left
            · rintro w' ⟨s0, s1, s2, s3⟩
              go_simp
              with_reducible rfl
            rotate_left
            · simp only [Act.put, List.setIfInBounds_toArray, List.set_cons_zero, List.set_cons_succ, i64_w, i32_w]
              rfl
            refine take_ (i := 20) (N := some 72) (v := ?_) (a' := ?_) #[true, true, true, true, true, true, true, true, true, true, true, true, true, true, true, true, true, true, true, true, true, false, true, true, false, false, false, false, false, false, false, false, false, false, false, false, false, false, false, false, false, false] rfl rfl (take_ofW HT_.out HW_.out (by kernel_rfl)) (fun _ _ _ h => h) (Or.inl ⟨by rfl, ?_⟩) hHeld ?_ ?_
            rotate_left
            · rintro w' ⟨s0, s1, s2, s3⟩
              go_simp
              with_reducible rfl
            rotate_left
            · simp only [Act.put, List.setIfInBounds_toArray, List.set_cons_zero, List.set_cons_succ, i64_w, i32_w]
              rfl
            refine one_ (i := 21) (N := some 73) #[true, true, true, true, true, true, true, true, true, true, true, true, true, true, true, true, true, true, true, true, true, true, true, true, false, false, false, false, false, false, false, false, false, false, false, false, false, false, false, false, false, false] rfl rfl (one_of HT_.out (by kernel_rfl)) (by decide) (fun K hK => ?_)
            refine goes_ Try.func33 (by kernel_rfl) rfl #[.agg #[.bool t232, .slice Ao31 t233.length co31], .agg #[.bool t237, .slice Ao36 t238.length co36]] (by rfl) rfl rfl (by (try simp only [List.map_toArray, List.map_cons, List.map_nil]); first | done | rfl | (simp only [List.length_drop, List.length_take]; rfl)) ?_
            with_reducible refine (ashlarref01_Times.calls k t232 _ _ t233 t237 _ _ t238 t266 t267 _ ?side1 ?side2 ?side3 ?side4 A19.out).mono ?_
            (case side1 => repeat (first | exact (Kd.R_reads' HO235.out).2.2 | (with_reducible refine Kd.C_alloc ?_ _) | (with_reducible refine Kd.C_drewN ?_ _) | (with_reducible refine Kd.C_drew ?_)))
            (case side2 => exact (Kd.R_reads' HO235.out).2.1)
            (case side3 => repeat (first | exact (Kd.R_reads' HO240.out).2.2 | (with_reducible refine Kd.C_alloc ?_ _) | (with_reducible refine Kd.C_drewN ?_ _) | (with_reducible refine Kd.C_drew ?_)))
            (case side4 => exact (Kd.R_reads' HO240.out).2.1)
            rintro e w51 ⟨v268, rfl, ho0, hb⟩
            refine ⟨_, rfl, ?_⟩
            have n0_ := Aside0.mk (Kd.R_below (by (with_reducible repeat (first | apply Kd.R_alloc | apply Kd.R_drewN | apply Kd.R_drew)); exact HO235.out) hb)
            have n1_ := Aside0.mk (Kd.R_below (by (with_reducible repeat (first | apply Kd.R_alloc | apply Kd.R_drewN | apply Kd.R_drew)); exact HO240.out) hb)
            have n2_ := Aside0.mk (Kd.V_below (by (with_reducible repeat (first | apply Kd.V_alloc | apply Kd.V_drewN | apply Kd.V_drew)); exact HO255.out) hb)
            have n3_ := Aside0.mk (Kd.V_below (by (with_reducible repeat (first | apply Kd.V_alloc | apply Kd.V_drewN | apply Kd.V_drew)); exact HO260.out) hb)
            have n4_ := Aside0.mk (Kd.V_below (by (with_reducible repeat (first | apply Kd.V_alloc | apply Kd.V_drewN | apply Kd.V_drew)); exact HO264.out) hb)
            have n5_ := Aside0.mk (Kd.V_lower (Kd.V_mono (ok' := fun k_ => some k_ ≠ (.slice Ao31 t233.length co31 : Value).ownBlock ∧ some k_ ≠ (.slice Ao36 t238.length co36 : Value).ownBlock ∧ k_ ≠ gb236 ∧ k_ ≠ gb241) ho0 (fun k_ hk_ => ⟨(Kd.fresh' (Kd.R_lt (by (with_reducible repeat (first | apply Kd.R_alloc | apply Kd.R_drewN | apply Kd.R_drew)); exact HO235.out)) k_ hk_), (Kd.fresh' (Kd.R_lt (by (with_reducible repeat (first | apply Kd.R_alloc | apply Kd.R_drewN | apply Kd.R_drew)); exact HO240.out)) k_ hk_), (Kd.freshB (g := gb236) (o := .cells #[.bool t232, .slice Ao31 t233.length co31] 31 (0, 0)) (by (with_reducible repeat (first | refine blk_drewN ?_ _ | refine blk_drew ?_ | refine blk_alloc ?_ _)); exact BK236.out) k_ hk_), (Kd.freshB (g := gb241) (o := .cells #[.bool t237, .slice Ao36 t238.length co36] 31 (0, 0)) (by (with_reducible repeat (first | refine blk_drewN ?_ _ | refine blk_drew ?_ | refine blk_alloc ?_ _)); exact BK241.out) k_ hk_)⟩)) (below_size (by repeat (first | (with_reducible first | exact HB.out | apply below_alloc | apply pw_below_drewN | apply below_drew1 | refine below_set ?_ GE236.out | refine below_set ?_ GE241.out) | exact HB.out))))
            have n6_ := Aside0.mk (blk_below (g := gb236) (o := .cells #[.bool t232, .slice Ao31 t233.length co31] 31 (0, 0)) (by (with_reducible repeat (first | refine blk_drewN ?_ _ | refine blk_drew ?_ | refine blk_alloc ?_ _)); exact BK236.out) hb)
            have n7_ := Aside0.mk (blk_below (g := gb241) (o := .cells #[.bool t237, .slice Ao36 t238.length co36] 31 (0, 0)) (by (with_reducible repeat (first | refine blk_drewN ?_ _ | refine blk_drew ?_ | refine blk_alloc ?_ _)); exact BK241.out) hb)
            have n8_ := Aside0.mk (below_step (by repeat (first | (with_reducible first | exact HB.out | apply below_alloc | apply pw_below_drewN | apply below_drew1 | refine below_set ?_ GE236.out | refine below_set ?_ GE241.out) | exact HB.out)) hb)
            clear HO235
            clear HO240
            clear HO255
            clear HO260
            clear HO264
            clear BK236
            clear BK241
            clear HB
            have HO235 := n0_
            have HO240 := n1_
            have HO255 := n2_
            have HO260 := n3_
            have HO264 := n4_
            have HO269 := n5_
            have BK236 := n6_
            have BK241 := n7_
            have HB := n8_
            clear n0_ n1_ n2_ n3_ n4_ n5_ n6_ n7_ n8_
            (try clear hb)
            (try clear hb2)
            (try clear hk)
            (try clear hi)
            (try clear ho0)
            obtain ⟨Ao52, co52, eo52⟩ := Kd.V_slice HO269.out
            (first | subst eo52 | (injection eo52 with f1_ f2_ f3_; have f4_ := f1_.symm; have f5_ := f3_.symm; clear f1_ f2_ f3_; subst f4_; subst f5_))
            refine hK.out _ _ ⟨(blk_cell BK236.out 0).trans rfl, (blk_cell BK236.out 1).trans rfl, (blk_cell BK241.out 0).trans rfl, (blk_cell BK241.out 1).trans rfl⟩ (fun hHeld => ?_)
            clear hK K
            refine norm_ (a' := ?_) ?_ ?_
            rotate_left
            · show Act.put _ (some 73) _ = _
              simp only [Act.put, List.setIfInBounds_toArray, List.set_cons_zero, List.set_cons_succ, i64_w, i32_w]
              rfl
            refine one_ (i := 24) (N := some 76) #[true, true, true, true, true, true, true, true, true, true, true, true, true, true, true, true, true, true, true, true, true, true, true, true, true, false, false, false, false, false, false, false, false, false, false, false, false, false, false, false, false, false] rfl rfl (one_of HT_.out (by kernel_rfl)) (by decide) (fun K hK => ?_)
            refine goes_ Try.func30 (by kernel_rfl) rfl #[.agg #[.bool t266, .slice Ao52 t267.length co52], .int .i64 t246, .bool t247] (by rfl) rfl rfl (by (try simp only [List.map_toArray, List.map_cons, List.map_nil]); first | done | rfl | (simp only [List.length_drop, List.length_take]; rfl)) ?_
            with_reducible refine (ashlarlaw01_fits.calls k t266 _ _ t267 t246 t247 true _ ?side1 ?side2 A20.out).mono ?_
            (case side1 => repeat (first | exact (Kd.V_reads' HO269.out).2.2 | (with_reducible refine Kd.C_alloc ?_ _) | (with_reducible refine Kd.C_drewN ?_ _) | (with_reducible refine Kd.C_drew ?_)))
            (case side2 => exact (Kd.V_reads' HO269.out).2.1)
            rintro e w53 ⟨rfl, hb⟩
            refine ⟨_, rfl, ?_⟩
            have n0_ := Aside0.mk (Kd.R_below (by (with_reducible repeat (first | apply Kd.R_alloc | apply Kd.R_drewN | apply Kd.R_drew)); exact HO235.out) hb)
            have n1_ := Aside0.mk (Kd.R_below (by (with_reducible repeat (first | apply Kd.R_alloc | apply Kd.R_drewN | apply Kd.R_drew)); exact HO240.out) hb)
            have n2_ := Aside0.mk (Kd.V_below (by (with_reducible repeat (first | apply Kd.V_alloc | apply Kd.V_drewN | apply Kd.V_drew)); exact HO255.out) hb)
            have n3_ := Aside0.mk (Kd.V_below (by (with_reducible repeat (first | apply Kd.V_alloc | apply Kd.V_drewN | apply Kd.V_drew)); exact HO260.out) hb)
            have n4_ := Aside0.mk (Kd.V_below (by (with_reducible repeat (first | apply Kd.V_alloc | apply Kd.V_drewN | apply Kd.V_drew)); exact HO264.out) hb)
            have n5_ := Aside0.mk (Kd.V_below (by (with_reducible repeat (first | apply Kd.V_alloc | apply Kd.V_drewN | apply Kd.V_drew)); exact HO269.out) hb)
            have n6_ := Aside0.mk (blk_below (g := gb236) (o := .cells #[.bool t232, .slice Ao31 t233.length co31] 31 (0, 0)) (by (with_reducible repeat (first | refine blk_drewN ?_ _ | refine blk_drew ?_ | refine blk_alloc ?_ _)); exact BK236.out) hb)
            have n7_ := Aside0.mk (blk_below (g := gb241) (o := .cells #[.bool t237, .slice Ao36 t238.length co36] 31 (0, 0)) (by (with_reducible repeat (first | refine blk_drewN ?_ _ | refine blk_drew ?_ | refine blk_alloc ?_ _)); exact BK241.out) hb)
            have n8_ := Aside0.mk (below_step (by repeat (first | (with_reducible first | exact HB.out | apply below_alloc | apply pw_below_drewN | apply below_drew1 | refine below_set ?_ GE236.out | refine below_set ?_ GE241.out) | exact HB.out)) hb)
            clear HO235
            clear HO240
            clear HO255
            clear HO260
            clear HO264
            clear HO269
            clear BK236
            clear BK241
            clear HB
            have HO235 := n0_
            have HO240 := n1_
            have HO255 := n2_
            have HO260 := n3_
            have HO264 := n4_
            have HO269 := n5_
            have BK236 := n6_
            have BK241 := n7_
            have HB := n8_
            clear n0_ n1_ n2_ n3_ n4_ n5_ n6_ n7_ n8_
            (try clear hb)
            (try clear hb2)
            (try clear hk)
            (try clear hi)
            refine hK.out _ _ ⟨(blk_cell BK236.out 0).trans rfl, (blk_cell BK236.out 1).trans rfl, (blk_cell BK241.out 0).trans rfl, (blk_cell BK241.out 1).trans rfl⟩ (fun hHeld => ?_)
            clear hK K
            refine norm_ (a' := ?_) ?_ ?_
            rotate_left
            · show Act.put _ (some 76) _ = _
              simp only [Act.put, List.setIfInBounds_toArray, List.set_cons_zero, List.set_cons_succ, i64_w, i32_w]
              rfl
            refine pure_ (i := 25) (N := some 77) (v := ?_) (a' := ?_) #[true, true, true, true, true, true, true, true, true, true, true, true, true, true, true, true, true, true, true, true, true, true, true, true, true, true, false, false, false, false, false, false, false, false, false, false, false, false, false, false, false, false] rfl rfl (any_of HT_.out (by kernel_rfl)) (fun _ _ _ h => h) (Or.inl ⟨by rfl, ?_⟩) ?_ ?_
            rotate_left
            · intro w'
              go_simp
              with_reducible rfl
            rotate_left
            · simp only [Act.put, List.setIfInBounds_toArray, List.set_cons_zero, List.set_cons_succ, i64_w, i32_w]
              rfl
            refine pure_ (i := 26) (N := some 78) (v := ?_) (a' := ?_) #[true, true, true, true, true, true, true, true, true, true, true, true, true, true, true, true, true, true, true, true, true, true, true, true, true, true, true, false, false, false, false, false, false, false, false, false, false, false, false, false, false, false] rfl rfl (any_of HT_.out (by kernel_rfl)) (fun _ _ _ h => h) (Or.inl ⟨by rfl, ?_⟩) ?_ ?_
            rotate_left
            · intro w'
              go_simp
              with_reducible rfl
            rotate_left
            · simp only [Act.put, List.setIfInBounds_toArray, List.set_cons_zero, List.set_cons_succ, i64_w, i32_w]
              rfl
            refine pure_ (i := 29) (N := some 81) (v := ?_) (a' := ?_) #[true, true, true, true, true, true, true, true, true, true, true, true, true, true, true, true, true, true, true, true, true, true, true, true, true, true, true, false, false, true, false, false, false, false, false, false, false, false, false, false, false, false] rfl rfl (any_of HT_.out (by kernel_rfl)) (fun _ _ _ h => h) (Or.inl ⟨by rfl, ?_⟩) ?_ ?_
            rotate_left
            · intro w'
              go_simp
              with_reducible rfl
            rotate_left
            · simp only [Act.put, List.setIfInBounds_toArray, List.set_cons_zero, List.set_cons_succ, i64_w, i32_w]
              rfl
            refine pure_ (i := 30) (N := some 82) (v := ?_) (a' := ?_) #[true, true, true, true, true, true, true, true, true, true, true, true, true, true, true, true, true, true, true, true, true, true, true, true, true, true, true, false, false, true, true, false, false, false, false, false, false, false, false, false, false, false] rfl rfl (any_of HT_.out (by kernel_rfl)) (fun _ _ _ h => h) (Or.inl ⟨by rfl, ?_⟩) ?_ ?_
            rotate_left
            · intro w'
              go_simp
              with_reducible rfl
            rotate_left
            · simp only [Act.put, List.setIfInBounds_toArray, List.set_cons_zero, List.set_cons_succ, i64_w, i32_w]
              rfl
            refine take_ (i := 27) (N := some 79) (v := ?_) (a' := ?_) #[true, true, true, true, true, true, true, true, true, true, true, true, true, true, true, true, true, true, true, true, true, true, true, true, true, true, true, true, false, true, true, false, false, false, false, false, false, false, false, false, false, false] rfl rfl (take_ofW HT_.out HW_.out (by kernel_rfl)) (fun _ _ _ h => h) (Or.inl ⟨by rfl, ?_⟩) hHeld ?_ ?_
            rotate_left
            · rintro w' ⟨s0, s1, s2, s3⟩
              go_simp
              with_reducible rfl
            rotate_left
            · simp only [Act.put, List.setIfInBounds_toArray, List.set_cons_zero, List.set_cons_succ, i64_w, i32_w]
              rfl
            refine one_ (i := 28) (N := some 80) #[true, true, true, true, true, true, true, true, true, true, true, true, true, true, true, true, true, true, true, true, true, true, true, true, true, true, true, true, true, true, true, false, false, false, false, false, false, false, false, false, false, false] rfl rfl (one_of HT_.out (by kernel_rfl)) (by decide) (fun K hK => ?_)
            refine goes_ Try.func32 (by kernel_rfl) rfl #[.agg #[.bool t232, .slice Ao31 t233.length co31]] (by rfl) rfl rfl (by (try simp only [List.map_toArray, List.map_cons, List.map_nil]); first | done | rfl | (simp only [List.length_drop, List.length_take]; rfl)) ?_
            with_reducible refine (ashlarref01_Turn.calls t232 (fun k_ => some k_ = (.slice Ao31 t233.length co31 : Value).ownBlock) _ _ t233 t271 t272 _ ?side1 A22.out).mono ?_
            (case side1 => exact Kd.R_V (Kd.R_tight rfl (Kd.R_types (Kd.R_types (HO235.out) BK236.out (by decide)) BK241.out (by decide))))
            rintro e w54 ⟨v273, rfl, ho0, hb⟩
            refine ⟨_, rfl, ?_⟩
            have n0_ := Aside0.mk (Kd.R_below (by (with_reducible repeat (first | apply Kd.R_alloc | apply Kd.R_drewN | apply Kd.R_drew)); exact HO235.out) hb)
            have n1_ := Aside0.mk (Kd.R_below (by (with_reducible repeat (first | apply Kd.R_alloc | apply Kd.R_drewN | apply Kd.R_drew)); exact HO240.out) hb)
            have n2_ := Aside0.mk (Kd.V_below (by (with_reducible repeat (first | apply Kd.V_alloc | apply Kd.V_drewN | apply Kd.V_drew)); exact HO255.out) hb)
            have n3_ := Aside0.mk (Kd.V_below (by (with_reducible repeat (first | apply Kd.V_alloc | apply Kd.V_drewN | apply Kd.V_drew)); exact HO260.out) hb)
            have n4_ := Aside0.mk (Kd.V_below (by (with_reducible repeat (first | apply Kd.V_alloc | apply Kd.V_drewN | apply Kd.V_drew)); exact HO264.out) hb)
            have n5_ := Aside0.mk (Kd.V_below (by (with_reducible repeat (first | apply Kd.V_alloc | apply Kd.V_drewN | apply Kd.V_drew)); exact HO269.out) hb)
            have n6_ := Aside0.mk (Kd.V_lower (Kd.V_mono (ok' := fun k_ => some k_ ≠ (.slice Ao36 t238.length co36 : Value).ownBlock ∧ k_ ≠ gb236 ∧ k_ ≠ gb241) ho0 (fun k_ hk_ => ⟨Or.elim hk_ (fun hs_ => ((Kd.R_types (Kd.R_types (HO235.out) BK236.out (by decide)) BK241.out (by decide)).1 k_ hs_.symm).1.1.2) (fun hn_ => (Kd.fresh' (Kd.R_lt (by (with_reducible repeat (first | apply Kd.R_alloc | apply Kd.R_drewN | apply Kd.R_drew)); exact HO240.out)) k_ hn_)), Or.elim hk_ (fun hs_ => ((Kd.R_types (Kd.R_types (HO235.out) BK236.out (by decide)) BK241.out (by decide)).1 k_ hs_.symm).1.2) (fun hn_ => (Kd.freshB (g := gb236) (o := .cells #[.bool t232, .slice Ao31 t233.length co31] 31 (0, 0)) (by (with_reducible repeat (first | refine blk_drewN ?_ _ | refine blk_drew ?_ | refine blk_alloc ?_ _)); exact BK236.out) k_ hn_)), Or.elim hk_ (fun hs_ => ((Kd.R_types (Kd.R_types (HO235.out) BK236.out (by decide)) BK241.out (by decide)).1 k_ hs_.symm).2) (fun hn_ => (Kd.freshB (g := gb241) (o := .cells #[.bool t237, .slice Ao36 t238.length co36] 31 (0, 0)) (by (with_reducible repeat (first | refine blk_drewN ?_ _ | refine blk_drew ?_ | refine blk_alloc ?_ _)); exact BK241.out) k_ hn_))⟩)) (below_size (by repeat (first | (with_reducible first | exact HB.out | apply below_alloc | apply pw_below_drewN | apply below_drew1 | refine below_set ?_ GE236.out | refine below_set ?_ GE241.out) | exact HB.out))))
            have n7_ := Aside0.mk (blk_below (g := gb236) (o := .cells #[.bool t232, .slice Ao31 t233.length co31] 31 (0, 0)) (by (with_reducible repeat (first | refine blk_drewN ?_ _ | refine blk_drew ?_ | refine blk_alloc ?_ _)); exact BK236.out) hb)
            have n8_ := Aside0.mk (blk_below (g := gb241) (o := .cells #[.bool t237, .slice Ao36 t238.length co36] 31 (0, 0)) (by (with_reducible repeat (first | refine blk_drewN ?_ _ | refine blk_drew ?_ | refine blk_alloc ?_ _)); exact BK241.out) hb)
            have n9_ := Aside0.mk (below_step (by repeat (first | (with_reducible first | exact HB.out | apply below_alloc | apply pw_below_drewN | apply below_drew1 | refine below_set ?_ GE236.out | refine below_set ?_ GE241.out) | exact HB.out)) hb)
            clear HO235
            clear HO240
            clear HO255
            clear HO260
            clear HO264
            clear HO269
            clear BK236
            clear BK241
            clear HB
            have HO235 := n0_
            have HO240 := n1_
            have HO255 := n2_
            have HO260 := n3_
            have HO264 := n4_
            have HO269 := n5_
            have HO274 := n6_
            have BK236 := n7_
            have BK241 := n8_
            have HB := n9_
            clear n0_ n1_ n2_ n3_ n4_ n5_ n6_ n7_ n8_ n9_
            (try clear hb)
            (try clear hb2)
            (try clear hk)
            (try clear hi)
            (try clear ho0)
            obtain ⟨Ao55, co55, eo55⟩ := Kd.V_slice HO274.out
            (first | subst eo55 | (injection eo55 with f1_ f2_ f3_; have f4_ := f1_.symm; have f5_ := f3_.symm; clear f1_ f2_ f3_; subst f4_; subst f5_))
            refine hK.out _ _ ⟨(blk_cell BK236.out 0).trans rfl, (blk_cell BK236.out 1).trans rfl, (blk_cell BK241.out 0).trans rfl, (blk_cell BK241.out 1).trans rfl⟩ (fun hHeld => ?_)
            clear hK K
            refine norm_ (a' := ?_) ?_ ?_
            rotate_left
            · show Act.put _ (some 80) _ = _
              simp only [Act.put, List.setIfInBounds_toArray, List.set_cons_zero, List.set_cons_succ, i64_w, i32_w]
              rfl
            refine one_ (i := 31) (N := some 83) #[true, true, true, true, true, true, true, true, true, true, true, true, true, true, true, true, true, true, true, true, true, true, true, true, true, true, true, true, true, true, true, true, false, false, false, false, false, false, false, false, false, false] rfl rfl (one_of HT_.out (by kernel_rfl)) (by decide) (fun K hK => ?_)
            refine goes_ Try.func30 (by kernel_rfl) rfl #[.agg #[.bool t271, .slice Ao55 t272.length co55], .int .i64 t248, .bool t249] (by rfl) rfl rfl (by (try simp only [List.map_toArray, List.map_cons, List.map_nil]); first | done | rfl | (simp only [List.length_drop, List.length_take]; rfl)) ?_
            with_reducible refine (ashlarlaw01_fits.calls k t271 _ _ t272 t248 t249 true _ ?side1 ?side2 A23.out).mono ?_
            (case side1 => repeat (first | exact (Kd.V_reads' HO274.out).2.2 | (with_reducible refine Kd.C_alloc ?_ _) | (with_reducible refine Kd.C_drewN ?_ _) | (with_reducible refine Kd.C_drew ?_)))
            (case side2 => exact (Kd.V_reads' HO274.out).2.1)
            rintro e w56 ⟨rfl, hb⟩
            refine ⟨_, rfl, ?_⟩
            have n0_ := Aside0.mk (Kd.R_below (by (with_reducible repeat (first | apply Kd.R_alloc | apply Kd.R_drewN | apply Kd.R_drew)); exact HO235.out) hb)
            have n1_ := Aside0.mk (Kd.R_below (by (with_reducible repeat (first | apply Kd.R_alloc | apply Kd.R_drewN | apply Kd.R_drew)); exact HO240.out) hb)
            have n2_ := Aside0.mk (Kd.V_below (by (with_reducible repeat (first | apply Kd.V_alloc | apply Kd.V_drewN | apply Kd.V_drew)); exact HO255.out) hb)
            have n3_ := Aside0.mk (Kd.V_below (by (with_reducible repeat (first | apply Kd.V_alloc | apply Kd.V_drewN | apply Kd.V_drew)); exact HO260.out) hb)
            have n4_ := Aside0.mk (Kd.V_below (by (with_reducible repeat (first | apply Kd.V_alloc | apply Kd.V_drewN | apply Kd.V_drew)); exact HO264.out) hb)
            have n5_ := Aside0.mk (Kd.V_below (by (with_reducible repeat (first | apply Kd.V_alloc | apply Kd.V_drewN | apply Kd.V_drew)); exact HO269.out) hb)
            have n6_ := Aside0.mk (Kd.V_below (by (with_reducible repeat (first | apply Kd.V_alloc | apply Kd.V_drewN | apply Kd.V_drew)); exact HO274.out) hb)
            have n7_ := Aside0.mk (blk_below (g := gb236) (o := .cells #[.bool t232, .slice Ao31 t233.length co31] 31 (0, 0)) (by (with_reducible repeat (first | refine blk_drewN ?_ _ | refine blk_drew ?_ | refine blk_alloc ?_ _)); exact BK236.out) hb)
            have n8_ := Aside0.mk (blk_below (g := gb241) (o := .cells #[.bool t237, .slice Ao36 t238.length co36] 31 (0, 0)) (by (with_reducible repeat (first | refine blk_drewN ?_ _ | refine blk_drew ?_ | refine blk_alloc ?_ _)); exact BK241.out) hb)
            have n9_ := Aside0.mk (below_step (by repeat (first | (with_reducible first | exact HB.out | apply below_alloc | apply pw_below_drewN | apply below_drew1 | refine below_set ?_ GE236.out | refine below_set ?_ GE241.out) | exact HB.out)) hb)
            clear HO235
            clear HO240
            clear HO255
            clear HO260
            clear HO264
            clear HO269
            clear HO274
            clear BK236
            clear BK241
            clear HB
            have HO235 := n0_
            have HO240 := n1_
            have HO255 := n2_
            have HO260 := n3_
            have HO264 := n4_
            have HO269 := n5_
            have HO274 := n6_
            have BK236 := n7_
            have BK241 := n8_
            have HB := n9_
            clear n0_ n1_ n2_ n3_ n4_ n5_ n6_ n7_ n8_ n9_
            (try clear hb)
            (try clear hb2)
            (try clear hk)
            (try clear hi)
            refine hK.out _ _ ⟨(blk_cell BK236.out 0).trans rfl, (blk_cell BK236.out 1).trans rfl, (blk_cell BK241.out 0).trans rfl, (blk_cell BK241.out 1).trans rfl⟩ (fun hHeld => ?_)
            clear hK K
            refine norm_ (a' := ?_) ?_ ?_
            rotate_left
            · show Act.put _ (some 83) _ = _
              simp only [Act.put, List.setIfInBounds_toArray, List.set_cons_zero, List.set_cons_succ, i64_w, i32_w]
              rfl
            refine pure_ (i := 32) (N := some 84) (v := ?_) (a' := ?_) #[true, true, true, true, true, true, true, true, true, true, true, true, true, true, true, true, true, true, true, true, true, true, true, true, true, true, true, true, true, true, true, true, true, false, false, false, false, false, false, false, false, false] rfl rfl (any_of HT_.out (by kernel_rfl)) (fun _ _ _ h => h) (Or.inl ⟨by rfl, ?_⟩) ?_ ?_
            rotate_left
            · intro w'
              go_simp
              with_reducible rfl
            rotate_left
            · simp only [Act.put, List.setIfInBounds_toArray, List.set_cons_zero, List.set_cons_succ, i64_w, i32_w]
              rfl
            refine pure_ (i := 33) (N := some 85) (v := ?_) (a' := ?_) #[true, true, true, true, true, true, true, true, true, true, true, true, true, true, true, true, true, true, true, true, true, true, true, true, true, true, true, true, true, true, true, true, true, true, false, false, false, false, false, false, false, false] rfl rfl (any_of HT_.out (by kernel_rfl)) (fun _ _ _ h => h) (Or.inl ⟨by rfl, ?_⟩) ?_ ?_
            rotate_left
            · intro w'
              go_simp
              with_reducible rfl
            rotate_left
            · simp only [Act.put, List.setIfInBounds_toArray, List.set_cons_zero, List.set_cons_succ, i64_w, i32_w]
              rfl
            refine pure_ (i := 37) (N := some 89) (v := ?_) (a' := ?_) #[true, true, true, true, true, true, true, true, true, true, true, true, true, true, true, true, true, true, true, true, true, true, true, true, true, true, true, true, true, true, true, true, true, true, false, false, false, true, false, false, false, false] rfl rfl (any_of HT_.out (by kernel_rfl)) (fun _ _ _ h => h) (Or.inl ⟨by rfl, ?_⟩) ?_ ?_
            rotate_left
            · intro w'
              go_simp
              with_reducible rfl
            rotate_left
            · simp only [Act.put, List.setIfInBounds_toArray, List.set_cons_zero, List.set_cons_succ, i64_w, i32_w]
              rfl
            refine pure_ (i := 38) (N := some 90) (v := ?_) (a' := ?_) #[true, true, true, true, true, true, true, true, true, true, true, true, true, true, true, true, true, true, true, true, true, true, true, true, true, true, true, true, true, true, true, true, true, true, false, false, false, true, true, false, false, false] rfl rfl (any_of HT_.out (by kernel_rfl)) (fun _ _ _ h => h) (Or.inl ⟨by rfl, ?_⟩) ?_ ?_
            rotate_left
            · intro w'
              go_simp
              with_reducible rfl
            rotate_left
            · simp only [Act.put, List.setIfInBounds_toArray, List.set_cons_zero, List.set_cons_succ, i64_w, i32_w]
              rfl
            refine take_ (i := 34) (N := some 86) (v := ?_) (a' := ?_) #[true, true, true, true, true, true, true, true, true, true, true, true, true, true, true, true, true, true, true, true, true, true, true, true, true, true, true, true, true, true, true, true, true, true, true, false, false, true, true, false, false, false] rfl rfl (take_ofW HT_.out HW_.out (by kernel_rfl)) (fun _ _ _ h => h) (Or.inl ⟨by rfl, ?_⟩) hHeld ?_ ?_
            rotate_left
            · rintro w' ⟨s0, s1, s2, s3⟩
              go_simp
              with_reducible rfl
            rotate_left
            · simp only [Act.put, List.setIfInBounds_toArray, List.set_cons_zero, List.set_cons_succ, i64_w, i32_w]
              rfl
            refine take_ (i := 35) (N := some 87) (v := ?_) (a' := ?_) #[true, true, true, true, true, true, true, true, true, true, true, true, true, true, true, true, true, true, true, true, true, true, true, true, true, true, true, true, true, true, true, true, true, true, true, true, false, true, true, false, false, false] rfl rfl (take_ofW HT_.out HW_.out (by kernel_rfl)) (fun _ _ _ h => h) (Or.inl ⟨by rfl, ?_⟩) hHeld ?_ ?_
            rotate_left
            · rintro w' ⟨s0, s1, s2, s3⟩
              go_simp
              with_reducible rfl
            rotate_left
            · simp only [Act.put, List.setIfInBounds_toArray, List.set_cons_zero, List.set_cons_succ, i64_w, i32_w]
              rfl
            refine one_ (i := 36) (N := some 88) #[true, true, true, true, true, true, true, true, true, true, true, true, true, true, true, true, true, true, true, true, true, true, true, true, true, true, true, true, true, true, true, true, true, true, true, true, true, true, true, false, false, false] rfl rfl (one_of HT_.out (by kernel_rfl)) (by decide) (fun K hK => ?_)
            refine goes_ Try.func34 (by kernel_rfl) rfl #[.agg #[.bool t232, .slice Ao31 t233.length co31], .agg #[.bool t237, .slice Ao36 t238.length co36]] (by rfl) rfl rfl (by (try simp only [List.map_toArray, List.map_cons, List.map_nil]); first | done | rfl | (simp only [List.length_drop, List.length_take]; rfl)) ?_
            with_reducible refine (ashlarref01_Gcd.calls k t232 (fun k_ => some k_ = (.slice Ao31 t233.length co31 : Value).ownBlock) _ _ t233 t237 (fun k_ => some k_ = (.slice Ao36 t238.length co36 : Value).ownBlock) _ _ t238 t276 t277 _ ?side1 ?side2 A25.out).mono ?_
            (case side1 => exact Kd.R_V (Kd.R_tight rfl (Kd.R_types (Kd.R_types (HO235.out) BK236.out (by decide)) BK241.out (by decide))))
            (case side2 => exact Kd.R_V (Kd.R_tight rfl (Kd.R_types (Kd.R_types (HO240.out) BK236.out (by decide)) BK241.out (by decide))))
            rintro e w57 ⟨v278, rfl, ho0, hb⟩
            refine ⟨_, rfl, ?_⟩
            have n0_ := Aside0.mk (Kd.R_below (by (with_reducible repeat (first | apply Kd.R_alloc | apply Kd.R_drewN | apply Kd.R_drew)); exact HO235.out) hb)
            have n1_ := Aside0.mk (Kd.R_below (by (with_reducible repeat (first | apply Kd.R_alloc | apply Kd.R_drewN | apply Kd.R_drew)); exact HO240.out) hb)
            have n2_ := Aside0.mk (Kd.V_below (by (with_reducible repeat (first | apply Kd.V_alloc | apply Kd.V_drewN | apply Kd.V_drew)); exact HO255.out) hb)
            have n3_ := Aside0.mk (Kd.V_below (by (with_reducible repeat (first | apply Kd.V_alloc | apply Kd.V_drewN | apply Kd.V_drew)); exact HO260.out) hb)
            have n4_ := Aside0.mk (Kd.V_below (by (with_reducible repeat (first | apply Kd.V_alloc | apply Kd.V_drewN | apply Kd.V_drew)); exact HO264.out) hb)
            have n5_ := Aside0.mk (Kd.V_below (by (with_reducible repeat (first | apply Kd.V_alloc | apply Kd.V_drewN | apply Kd.V_drew)); exact HO269.out) hb)
            have n6_ := Aside0.mk (Kd.V_below (by (with_reducible repeat (first | apply Kd.V_alloc | apply Kd.V_drewN | apply Kd.V_drew)); exact HO274.out) hb)
            have n7_ := Aside0.mk (Kd.V_lower (Kd.V_mono (ok' := fun k_ => k_ ≠ gb236 ∧ k_ ≠ gb241) ho0 (fun k_ hk_ => ⟨Or.elim hk_ (fun hs_ => Or.elim hs_ (fun hs_ => ((Kd.R_types (Kd.R_types (HO235.out) BK236.out (by decide)) BK241.out (by decide)).1 k_ hs_.symm).1.2) (fun hs_ => ((Kd.R_types (Kd.R_types (HO240.out) BK236.out (by decide)) BK241.out (by decide)).1 k_ hs_.symm).1.2)) (fun hn_ => (Kd.freshB (g := gb236) (o := .cells #[.bool t232, .slice Ao31 t233.length co31] 31 (0, 0)) (by (with_reducible repeat (first | refine blk_drewN ?_ _ | refine blk_drew ?_ | refine blk_alloc ?_ _)); exact BK236.out) k_ hn_)), Or.elim hk_ (fun hs_ => Or.elim hs_ (fun hs_ => ((Kd.R_types (Kd.R_types (HO235.out) BK236.out (by decide)) BK241.out (by decide)).1 k_ hs_.symm).2) (fun hs_ => ((Kd.R_types (Kd.R_types (HO240.out) BK236.out (by decide)) BK241.out (by decide)).1 k_ hs_.symm).2)) (fun hn_ => (Kd.freshB (g := gb241) (o := .cells #[.bool t237, .slice Ao36 t238.length co36] 31 (0, 0)) (by (with_reducible repeat (first | refine blk_drewN ?_ _ | refine blk_drew ?_ | refine blk_alloc ?_ _)); exact BK241.out) k_ hn_))⟩)) (below_size (by repeat (first | (with_reducible first | exact HB.out | apply below_alloc | apply pw_below_drewN | apply below_drew1 | refine below_set ?_ GE236.out | refine below_set ?_ GE241.out) | exact HB.out))))
            have n8_ := Aside0.mk (blk_below (g := gb236) (o := .cells #[.bool t232, .slice Ao31 t233.length co31] 31 (0, 0)) (by (with_reducible repeat (first | refine blk_drewN ?_ _ | refine blk_drew ?_ | refine blk_alloc ?_ _)); exact BK236.out) hb)
            have n9_ := Aside0.mk (blk_below (g := gb241) (o := .cells #[.bool t237, .slice Ao36 t238.length co36] 31 (0, 0)) (by (with_reducible repeat (first | refine blk_drewN ?_ _ | refine blk_drew ?_ | refine blk_alloc ?_ _)); exact BK241.out) hb)
            have n10_ := Aside0.mk (below_step (by repeat (first | (with_reducible first | exact HB.out | apply below_alloc | apply pw_below_drewN | apply below_drew1 | refine below_set ?_ GE236.out | refine below_set ?_ GE241.out) | exact HB.out)) hb)
            clear HO235
            clear HO240
            clear HO255
            clear HO260
            clear HO264
            clear HO269
            clear HO274
            clear BK236
            clear BK241
            clear HB
            have HO235 := n0_
            have HO240 := n1_
            have HO255 := n2_
            have HO260 := n3_
            have HO264 := n4_
            have HO269 := n5_
            have HO274 := n6_
            have HO279 := n7_
            have BK236 := n8_
            have BK241 := n9_
            have HB := n10_
            clear n0_ n1_ n2_ n3_ n4_ n5_ n6_ n7_ n8_ n9_ n10_
            (try clear hb)
            (try clear hb2)
            (try clear hk)
            (try clear hi)
            (try clear ho0)
            obtain ⟨Ao58, co58, eo58⟩ := Kd.V_slice HO279.out
            (first | subst eo58 | (injection eo58 with f1_ f2_ f3_; have f4_ := f1_.symm; have f5_ := f3_.symm; clear f1_ f2_ f3_; subst f4_; subst f5_))
            refine hK.out _ _ ⟨(blk_cell BK236.out 0).trans rfl, (blk_cell BK236.out 1).trans rfl, (blk_cell BK241.out 0).trans rfl, (blk_cell BK241.out 1).trans rfl⟩ (fun hHeld => ?_)
            clear hK K
            refine norm_ (a' := ?_) ?_ ?_
            rotate_left
            · show Act.put _ (some 88) _ = _
              simp only [Act.put, List.setIfInBounds_toArray, List.set_cons_zero, List.set_cons_succ, i64_w, i32_w]
              rfl
            refine one_ (i := 39) (N := some 91) #[true, true, true, true, true, true, true, true, true, true, true, true, true, true, true, true, true, true, true, true, true, true, true, true, true, true, true, true, true, true, true, true, true, true, true, true, true, true, true, true, false, false] rfl rfl (one_of HT_.out (by kernel_rfl)) (by decide) (fun K hK => ?_)
            refine goes_ Try.func30 (by kernel_rfl) rfl #[.agg #[.bool t276, .slice Ao58 t277.length co58], .int .i64 t250, .bool t251] (by rfl) rfl rfl (by (try simp only [List.map_toArray, List.map_cons, List.map_nil]); first | done | rfl | (simp only [List.length_drop, List.length_take]; rfl)) ?_
            with_reducible refine (ashlarlaw01_fits.calls k t276 _ _ t277 t250 t251 t280 _ ?side1 ?side2 A26.out).mono ?_
            (case side1 => repeat (first | exact (Kd.V_reads' HO279.out).2.2 | (with_reducible refine Kd.C_alloc ?_ _) | (with_reducible refine Kd.C_drewN ?_ _) | (with_reducible refine Kd.C_drew ?_)))
            (case side2 => exact (Kd.V_reads' HO279.out).2.1)
            rintro e w59 ⟨rfl, hb⟩
            refine ⟨_, rfl, ?_⟩
            have n0_ := Aside0.mk (Kd.R_below (by (with_reducible repeat (first | apply Kd.R_alloc | apply Kd.R_drewN | apply Kd.R_drew)); exact HO235.out) hb)
            have n1_ := Aside0.mk (Kd.R_below (by (with_reducible repeat (first | apply Kd.R_alloc | apply Kd.R_drewN | apply Kd.R_drew)); exact HO240.out) hb)
            have n2_ := Aside0.mk (Kd.V_below (by (with_reducible repeat (first | apply Kd.V_alloc | apply Kd.V_drewN | apply Kd.V_drew)); exact HO255.out) hb)
            have n3_ := Aside0.mk (Kd.V_below (by (with_reducible repeat (first | apply Kd.V_alloc | apply Kd.V_drewN | apply Kd.V_drew)); exact HO260.out) hb)
            have n4_ := Aside0.mk (Kd.V_below (by (with_reducible repeat (first | apply Kd.V_alloc | apply Kd.V_drewN | apply Kd.V_drew)); exact HO264.out) hb)
            have n5_ := Aside0.mk (Kd.V_below (by (with_reducible repeat (first | apply Kd.V_alloc | apply Kd.V_drewN | apply Kd.V_drew)); exact HO269.out) hb)
            have n6_ := Aside0.mk (Kd.V_below (by (with_reducible repeat (first | apply Kd.V_alloc | apply Kd.V_drewN | apply Kd.V_drew)); exact HO274.out) hb)
            have n7_ := Aside0.mk (Kd.V_below (by (with_reducible repeat (first | apply Kd.V_alloc | apply Kd.V_drewN | apply Kd.V_drew)); exact HO279.out) hb)
            have n8_ := Aside0.mk (blk_below (g := gb236) (o := .cells #[.bool t232, .slice Ao31 t233.length co31] 31 (0, 0)) (by (with_reducible repeat (first | refine blk_drewN ?_ _ | refine blk_drew ?_ | refine blk_alloc ?_ _)); exact BK236.out) hb)
            have n9_ := Aside0.mk (blk_below (g := gb241) (o := .cells #[.bool t237, .slice Ao36 t238.length co36] 31 (0, 0)) (by (with_reducible repeat (first | refine blk_drewN ?_ _ | refine blk_drew ?_ | refine blk_alloc ?_ _)); exact BK241.out) hb)
            have n10_ := Aside0.mk (below_step (by repeat (first | (with_reducible first | exact HB.out | apply below_alloc | apply pw_below_drewN | apply below_drew1 | refine below_set ?_ GE236.out | refine below_set ?_ GE241.out) | exact HB.out)) hb)
            clear HO235
            clear HO240
            clear HO255
            clear HO260
            clear HO264
            clear HO269
            clear HO274
            clear HO279
            clear BK236
            clear BK241
            clear HB
            have HO235 := n0_
            have HO240 := n1_
            have HO255 := n2_
            have HO260 := n3_
            have HO264 := n4_
            have HO269 := n5_
            have HO274 := n6_
            have HO279 := n7_
            have BK236 := n8_
            have BK241 := n9_
            have HB := n10_
            clear n0_ n1_ n2_ n3_ n4_ n5_ n6_ n7_ n8_ n9_ n10_
            (try clear hb)
            (try clear hb2)
            (try clear hk)
            (try clear hi)
            refine hK.out _ _ ⟨(blk_cell BK236.out 0).trans rfl, (blk_cell BK236.out 1).trans rfl, (blk_cell BK241.out 0).trans rfl, (blk_cell BK241.out 1).trans rfl⟩ (fun hHeld => ?_)
            clear hK K
            refine norm_ (a' := ?_) ?_ ?_
            rotate_left
            · show Act.put _ (some 91) _ = _
              simp only [Act.put, List.setIfInBounds_toArray, List.set_cons_zero, List.set_cons_succ, i64_w, i32_w]
              rfl
            refine pure_ (i := 40) (N := some 92) (v := ?_) (a' := ?_) #[true, true, true, true, true, true, true, true, true, true, true, true, true, true, true, true, true, true, true, true, true, true, true, true, true, true, true, true, true, true, true, true, true, true, true, true, true, true, true, true, true, false] rfl rfl (any_of HT_.out (by kernel_rfl)) (fun _ _ _ h => h) (Or.inl ⟨by rfl, ?_⟩) ?_ ?_
            rotate_left
            · intro w'
              go_simp
              with_reducible rfl
            rotate_left
            · simp only [Act.put, List.setIfInBounds_toArray, List.set_cons_zero, List.set_cons_succ, i64_w, i32_w]
              rfl
            refine pure_ (i := 41) (N := some 4) (v := ?_) (a' := ?_) #[true, true, true, true, true, true, true, true, true, true, true, true, true, true, true, true, true, true, true, true, true, true, true, true, true, true, true, true, true, true, true, true, true, true, true, true, true, true, true, true, true, true] rfl rfl (any_of HT_.out (by kernel_rfl)) (fun _ _ _ h => h) (Or.inl ⟨by rfl, ?_⟩) ?_ ?_
            rotate_left
            · intro w'
              go_simp
              with_reducible rfl
            rotate_left
            · simp only [Act.put, List.setIfInBounds_toArray, List.set_cons_zero, List.set_cons_succ, i64_w, i32_w]
              rfl
            refine done_ (done_of HT_.out (by kernel_rfl)) ?_
            try go_wp2
            go_ret
            exact ⟨by first | rfl | (simp [errW_none, errW_some] <;> rfl) | (simp [*, errW_none, errW_some] <;> rfl), by repeat (first | (with_reducible first | exact HB.out | apply below_alloc | apply pw_below_drewN | apply below_drew1 | refine below_set ?_ GE236.out | refine below_set ?_ GE241.out) | exact HB.out)⟩
          · replace c24 := Bool.eq_false_iff.mpr c24
            subst c24
            have H1 : (some false) = some r := by rw [if_neg (show ¬ (false = true) by decide)] at H; exact H
            clear H
            have H := H1
            clear H1
            exact absurd (Option.some.inj H) (by rw [hr]; decide)
        · replace c21 := Bool.eq_false_iff.mpr c21
          subst c21
          have H1 : (some false) = some r := by rw [if_neg (show ¬ (false = true) by decide)] at H; exact H
          clear H
          have H := H1
          clear H1
          exact absurd (Option.some.inj H) (by rw [hr]; decide)
      · replace c18 := Bool.eq_false_iff.mpr c18
        subst c18
        have H1 : (some false) = some r := by rw [if_neg (show ¬ (false = true) by decide)] at H; exact H
        clear H
        have H := H1
        clear H1
        exact absurd (Option.some.inj H) (by rw [hr]; decide)
    · replace c14 := Bool.eq_false_iff.mpr c14
      subst c14
      have H1 : (some false) = some r := by rw [if_neg (show ¬ (false = true) by decide)] at H; exact H
      clear H
      have H := H1
      clear H1
      exact absurd (Option.some.inj H) (by rw [hr]; decide)
  · replace c11 := Bool.eq_false_iff.mpr c11
    subst c11
    have H1 : (some false) = some r := by rw [if_neg (show ¬ (false = true) by decide)] at H; exact H
    clear H
    have H := H1
    clear H1
    exact absurd (Option.some.inj H) (by rw [hr]; decide)
/-- THE ONE PURE STATEMENT of ashlarlaw01_NumWhole: yours. -/
def ashlarlaw01_NumWhole.Pure : Prop := ∀ (a0 : Int) (a1 : Int), (Lit.int .i64 a0).wf = true → (Lit.int .i64 a1).wf = true → ∃ k, ashlarlaw01_NumWhole.f k a0 a1 = some true
theorem ashlarlaw01_NumWhole.walk (P : ashlarlaw01_NumWhole.Pure) (a0 : Int) (a1 : Int) (w : World) (w0 : (Lit.int .i64 a0).wf = true) (w1 : (Lit.int .i64 a1).wf = true) :
    Calls Try.prog 8 #[.int .i64 a0, .int .i64 a1] w fun e w' => e = .returned (.bool true) ∧ Below w.heap.size w w' := by
  obtain ⟨k, h⟩ := P a0 a1 w0 w1
  refine (ashlarlaw01_NumWhole.calls k a0 a1 true w rfl h).mono ?_
  rintro e w' ⟨rfl, hd⟩
  exact ⟨rfl, hd⟩

end Go.Proofs.Ytnggikhpnophgaa.PNumWhole
