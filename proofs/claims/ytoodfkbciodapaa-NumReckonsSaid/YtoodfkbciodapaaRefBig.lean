/- Numbers of the document in memory, and what its functions make of them. -/
import Derived.Test.YtoodfkbciodapaaDigNumReckons
import Derived.Test.YtoodfkbciodapaaNumP
namespace Go.Proofs.Ytoodfkbciodapaa.Big
set_option linter.unusedVariables false
set_option linter.unusedSimpArgs false
open Go.RowKit Go.Proofs.Ytoodfkbciodapaa.Given Go.Proofs.Ytoodfkbciodapaa.PNumReckons Go.Proofs.YtoodfkbciodapaaW.PrintWords Go.Proofs.YtoodfkbciodapaaW.PrintMore Go.Proofs.Ytoodfkbciodapaa.Ref Go.Proofs.Ytoodfkbciodapaa.Dig Go.Proofs.Ytoodfkbciodapaa.DigNumReckons Go.Proofs.Ytoodfkbciodapaa.Num

def dn (x : Int) : Bool := decide (x < 0)
def Row (w : World) (A : Option Addr) (n c : Nat) (m : Nat) : Prop := n = (dg m).length ∧ Kd.V (Kd.int .i64) 3 w 0 (fun _ => True) (.slice A n c) (dg m)
theorem Row.below {w w' : World} {A : Option Addr} {n c m : Nat} (h : Row w A n c m) (hb : Below w.heap.size w w') : Row w' A n c m := ⟨h.1, Kd.V_below h.2 hb⟩
theorem Row.of {W : World} {base : Nat} {ok : Nat → Prop} {v : Value} {m : Nat} (h : Kd.V (Kd.int .i64) 3 W base ok v (dg m)) : ∃ A n c, v = .slice A n c ∧ Row W A n c m := by
  obtain ⟨A, c, hv, hl, hf⟩ := h
  exact ⟨A, _, c, hv, rfl, A, c, rfl, hl, Kd.F_mono hf fun _ _ => trivial⟩
def Out (w : World) (d : Bool) (m : Nat) (e : Ending) (w' : World) : Prop := ∃ A n c, e = .returned (.agg #[.bool d, .slice A n c]) ∧ Row w' A n c m ∧ Below w.heap.size w w'
theorem Out.mk' {w w' : World} {d : Bool} {m : Nat} {base : Nat} {ok : Nat → Prop} {v : Value} (h : Kd.V (Kd.int .i64) 3 w' base ok v (dg m)) (hb : Below w.heap.size w w') : Out w d m (.returned (.agg #[.bool d, v])) w' := by
  obtain ⟨A, n, c, rfl, hR⟩ := Row.of h
  exact ⟨A, n, c, rfl, hR, hb⟩

theorem Of_big {x : Int} (hx : In64 x) (w : World) : Calls Try.prog 37 #[.int .i64 x] w (Out w (dn x) x.natAbs) := by
  obtain ⟨k0, h⟩ := of_dg hx
  refine (ashlarref01_Of.calls k0 x _ _ w (h k0 (Nat.le_refl _))).mono ?_
  rintro e w' ⟨v, rfl, hv, hb⟩
  exact Out.mk' (Kd.R_V (base' := 0) hv) hb
theorem Times_big {x y : Int} {A B : Option Addr} {n m c d : Nat} (w : World) (hx : Row w A n c x.natAbs) (hy : Row w B m d y.natAbs) (lx : (dg x.natAbs).length ≤ 1000) (ly : (dg y.natAbs).length ≤ 1000) :
    Calls Try.prog 36 #[.agg #[.bool (dn x), .slice A n c], .agg #[.bool (dn y), .slice B m d]] w (Out w (dn (x * y)) (x * y).natAbs) := by
  obtain ⟨rfl, hX⟩ := hx
  obtain ⟨rfl, hY⟩ := hy
  obtain ⟨k0, h⟩ := times_dg lx ly
  obtain ⟨-, cx, rx⟩ := Kd.V_reads' hX
  obtain ⟨-, cy, ry⟩ := Kd.V_reads' hY
  refine (ashlarref01_Times.calls k0 _ A c _ _ B d _ _ _ w rx cx ry cy (h k0 (Nat.le_refl _))).mono ?_
  rintro e w' ⟨v, rfl, hv, hb⟩
  exact Out.mk' hv hb
theorem Plus_big {x y : Int} {A B : Option Addr} {n m c d : Nat} (w : World) (hx : Row w A n c x.natAbs) (hy : Row w B m d y.natAbs) (lx : (dg x.natAbs).length ≤ 1000) (ly : (dg y.natAbs).length ≤ 1000) :
    Calls Try.prog 40 #[.agg #[.bool (dn x), .slice A n c], .agg #[.bool (dn y), .slice B m d]] w (Out w (dn (x + y)) (x + y).natAbs) := by
  obtain ⟨rfl, hX⟩ := hx
  obtain ⟨rfl, hY⟩ := hy
  obtain ⟨k0, h⟩ := plus_dg lx ly
  obtain ⟨-, cx, rx⟩ := Kd.V_reads' hX
  obtain ⟨-, cy, ry⟩ := Kd.V_reads' hY
  refine (ashlarref01_Plus.calls k0 _ A c _ _ B d _ _ _ w rx cx ry cy (h k0 (Nat.le_refl _))).mono ?_
  rintro e w' ⟨v, rfl, hv, hb⟩
  exact Out.mk' hv hb
theorem Turn_big {x : Int} {A : Option Addr} {n c : Nat} (w : World) (hx : Row w A n c x.natAbs) (lx : (dg x.natAbs).length ≤ 1000) :
    Calls Try.prog 38 #[.agg #[.bool (dn x), .slice A n c]] w (Out w (dn (-x)) (-x).natAbs) := by
  obtain ⟨rfl, hX⟩ := hx
  refine (ashlarref01_Turn.calls _ (fun _ => True) A c _ _ _ w hX (turn_dg lx)).mono ?_
  rintro e w' ⟨v, rfl, hv, hb⟩
  exact Out.mk' hv hb
theorem Gcd_big {x y : Nat} {a b : Bool} {A B : Option Addr} {n m c d : Nat} (w : World) (hx : Row w A n c x) (hy : Row w B m d y) (lx : (dg x).length ≤ 1000) (ly : (dg y).length ≤ 1000) :
    Calls Try.prog 52 #[.agg #[.bool a, .slice A n c], .agg #[.bool b, .slice B m d]] w (Out w false (Nat.gcd x y)) := by
  obtain ⟨rfl, hX⟩ := hx
  obtain ⟨rfl, hY⟩ := hy
  obtain ⟨k0, h⟩ := gcd_dg lx ly a b
  refine (ashlarref01_Gcd.calls k0 a (fun _ => True) A c _ b (fun _ => True) B d _ _ _ w hX hY (h k0 (Nat.le_refl _))).mono ?_
  rintro e w' ⟨v, rfl, hv, hb⟩
  exact Out.mk' hv hb
/-- A row whose blocks are none below lo. -/
def RowA (w : World) (lo : Nat) (A : Option Addr) (n c : Nat) (m : Nat) : Prop := n = (dg m).length ∧ Kd.V (Kd.int .i64) 3 w 0 (fun k => lo ≤ k) (.slice A n c) (dg m)
theorem RowA.row {w : World} {lo : Nat} {A : Option Addr} {n c m : Nat} (h : RowA w lo A n c m) : Row w A n c m := ⟨h.1, Kd.V_mono h.2 fun _ _ => trivial⟩
theorem RowA.set {w : World} {lo : Nat} {A : Option Addr} {n c m : Nat} (h : RowA w lo A n c m) {p : Addr} (hp : p.block < lo) (u : Value) : RowA (w.setCell p u) lo A n c m := ⟨h.1, Kd.V_far h.2 (fun k hk => by omega) u⟩
theorem RowA.below {w w' : World} {lo : Nat} {A : Option Addr} {n c m : Nat} (h : RowA w lo A n c m) (hb : Below w.heap.size w w') : RowA w' lo A n c m := ⟨h.1, Kd.V_below h.2 hb⟩
theorem RowA.of {W : World} {base lo : Nat} {v : Value} {m : Nat} (h : Kd.V (Kd.int .i64) 3 W base (fun k => lo ≤ k) v (dg m)) : ∃ A n c, v = .slice A n c ∧ RowA W lo A n c m := by
  obtain ⟨A, c, hv, hl, hf⟩ := h
  exact ⟨A, _, c, hv, rfl, A, c, rfl, hl, hf⟩
def Out2 (w : World) (m k : Nat) (e : Ending) (w' : World) : Prop := ∃ A n c B i d, e = .returned (.tuple #[.agg #[.bool false, .slice A n c], .agg #[.bool false, .slice B i d]]) ∧ RowA w' w.heap.size A n c m ∧ RowA w' w.heap.size B i d k ∧ Below w.heap.size w w'
theorem Over_big {x y : Nat} {a b : Bool} {A B : Option Addr} {n m c d : Nat} (w : World) (hx : Row w A n c x) (hy : Row w B m d y) (lx : (dg x).length ≤ 1000) (y0 : y ≠ 0) (ly : (dg y).length ≤ 1000) :
    Calls Try.prog 53 #[.agg #[.bool a, .slice A n c], .agg #[.bool b, .slice B m d]] w (Out2 w (x / y) (x % y)) := by
  obtain ⟨rfl, hX⟩ := hx
  obtain ⟨rfl, hY⟩ := hy
  obtain ⟨k0, h⟩ := over_dg lx y0 ly a b
  obtain ⟨-, cx, rx⟩ := Kd.V_reads' hX
  obtain ⟨-, cy, ry⟩ := Kd.V_reads' hY
  refine (ashlarref01_Over.calls k0 a A c _ b B d _ _ _ _ _ w rx cx ry cy (h k0 (Nat.le_refl _))).mono ?_
  rintro e w' ⟨v, u, rfl, hv, hu, hb⟩
  obtain ⟨A1, n1, c1, rfl, h1⟩ := RowA.of hv
  obtain ⟨A2, n2, c2, rfl, h2⟩ := RowA.of hu
  exact ⟨A1, n1, c1, A2, n2, c2, rfl, h1, h2, hb⟩
theorem cut_big {x : Nat} {a b : Bool} {A : Option Addr} {n c : Nat} (w : World) (hx : Row w A n c x) (lx : (dg x).length ≤ 1000) (hb : (a && decide (x ≠ 0)) = b) :
    Calls Try.prog 51 #[.agg #[.bool a, .slice A n c]] w (Out w b x) := by
  subst hb
  obtain ⟨rfl, hX⟩ := hx
  refine (ashlarref01_cut.calls a (fun _ => True) A c _ _ _ w hX (cut_f a (dg_dig x) (by omega) (dg_val x))).mono ?_
  rintro e w' ⟨v, rfl, hv, hb⟩
  exact Out.mk' hv hb
theorem Int_big {x : Nat} {a : Bool} {A : Option Addr} {n c : Nat} {v r : Int} {o : Bool} (w : World) (hx : Row w A n c x) (lx : (dg x).length ≤ 1000) (hv : (if a = true then -(x : Int) else x) = v) (hf : fitp v = (r, o)) :
    Calls Try.prog 54 #[.agg #[.bool a, .slice A n c]] w fun e w' => e = .returned (.tuple #[.int .i64 r, .bool o]) ∧ Below w.heap.size w w' := by
  obtain ⟨rfl, hX⟩ := hx
  obtain ⟨k0, h⟩ := int_dg a lx
  rw [hv, hf] at h
  obtain ⟨-, cx, rx⟩ := Kd.V_reads' hX
  exact ashlarref01_Int.calls k0 a A c _ _ _ w rx cx (h k0 (Nat.le_refl _))
end Go.Proofs.Ytoodfkbciodapaa.Big
