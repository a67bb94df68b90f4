import Derived.Test.YtbpjnkeilhfajaaGreatLnApp
import Derived.Test.YtbpjnkeilhfajaaGreatDigNumReckons
import Derived.Test.YtbpjnkeilhfajaaGreatNumE
import Derived.Test.YtbpjnkeilhfajaaGreatLinQ
import Derived.Test.YtbpjnkeilhfajaaGreatLinT
section
/- ashlarref01's Gcd. -/
namespace Go.Proofs
theorem Z3h0 {p : Prop} (h : p := by repeat (first | exact Below.refl _ _ | with_reducible assumption | refine Below.alloc ?_ (by first | exact Nat.le_refl _ | (simp; done) | (simp; omega) | omega) _ | refine Below.setCell ?_ (by first | exact Nat.le_refl _ | (simp; done) | (simp; omega) | omega) _ | refine Below.drew ?_ | refine bdrewN ?_ _)) : p := h
end Go.Proofs
namespace Go.Proofs.YtbpjnkeilhfajaaGreat.Rf
open Go.RowKit Go.Proofs.YtbpjnkeilhfajaaGreat.Given Go.Proofs.YtbpjnkeilhfajaaGreat.PNumReckons Go.Proofs.YtbpjnkeilhfajaaGreatW.PrintWords Go.Proofs.YtbpjnkeilhfajaaGreatW.PrintLast Go.Proofs.YtbpjnkeilhfajaaGreatW.PrintMore Go.Proofs.YtbpjnkeilhfajaaGreat.Ref Go.Proofs.YtbpjnkeilhfajaaGreat.Ln
set_option linter.unusedVariables false
set_option linter.unusedSimpArgs false
structure Gv (w W : World) (X Y : Option Addr) (n0 c0 n1 c1 : Nat) (b0 : Bool) (x : List Int) (b1 : Bool) (y : List Int) : Prop where
 fr : Bx W (w.heap.size + 1 + 1) (.bool false) (.slice none 0 0)
 fx : Bx W (w.heap.size + 1 + 1 + 1) (.bool b0) (.slice X n0 c0)
 fy : Bx W (w.heap.size + 1 + 1 + 1 + 1) (.bool b1) (.slice Y n1 c1)
 vx : Kd.V (Kd.int .i64) 3 W 0 (fun k => k < w.heap.size ∨ w.heap.size + 5 ≤ k) (.slice X n0 c0) x
 vy : Kd.V (Kd.int .i64) 3 W 0 (fun k => k < w.heap.size ∨ w.heap.size + 5 ≤ k) (.slice Y n1 c1) y
 below : Below w.heap.size w W
theorem Gv.keep {w W W1 : World} {X Y : Option Addr} {n0 c0 n1 c1 : Nat} {b0 b1 : Bool} {x y : List Int} (h : Hid (Gv w W X Y n0 c0 n1 c1 b0 x b1 y)) (hb : Below W.heap.size W W1) : Hid (Gv w W1 X Y n0 c0 n1 c1 b0 x b1 y) :=
 Lib.hid ⟨h.out.fr.keep hb (blk_lt h.out.fr), h.out.fx.keep hb (blk_lt h.out.fx), h.out.fy.keep hb (blk_lt h.out.fy), Kd.V_below h.out.vx hb, Kd.V_below h.out.vy hb, h.out.below.trans (hb.mono h.out.below.size)⟩
theorem Gv.turn {w W : World} {X Y Z : Option Addr} {n0 c0 n1 c1 n2 c2 : Nat} {b0 b1 b2 : Bool} {x y z : List Int} (h : Hid (Gv w W X Y n0 c0 n1 c1 b0 x b1 y)) (hz : Kd.V (Kd.int .i64) 3 W 0 (fun k => k < w.heap.size ∨ w.heap.size + 5 ≤ k) (.slice Z n2 c2) z) :
  Hid (Gv w ((((W.setCell ⟨w.heap.size + 1 + 1 + 1, 0, none⟩ (.bool b1)).setCell ⟨w.heap.size + 1 + 1 + 1, 1, none⟩ (.slice Y n1 c1)).setCell ⟨w.heap.size + 1 + 1 + 1 + 1, 0, none⟩ (.bool b2)).setCell ⟨w.heap.size + 1 + 1 + 1 + 1, 1, none⟩ (.slice Z n2 c2)) Y Z n1 c1 n2 c2 b1 y b2 z) := by
 obtain ⟨a1, a2, a3, a4, a5, a6⟩ := h.out
 refine Lib.hid ⟨(((a1.far (by omega)).far (by omega)).far (by omega)).far (by omega), ((a2.put _ _).1.far (by omega)).far (by omega), (((a3.far (by omega)).far (by omega)).put _ _).1, Kd.V_far (Kd.V_far (Kd.V_far (Kd.V_far a5 ?_ _) ?_ _) ?_ _) ?_ _, Kd.V_far (Kd.V_far (Kd.V_far (Kd.V_far hz ?_ _) ?_ _) ?_ _) ?_ _, (((a6.setCell ?_ _).setCell ?_ _).setCell ?_ _).setCell ?_ _⟩
 all_goals first | (intro k hk; rcases hk with hk | hk <;> simp only [] <;> omega) | (simp only []; omega)
theorem Vlen {W : World} {base : Nat} {ok : Nat → Prop} {A : Option Addr} {n c : Nat} {l : List Int} (h : Kd.V (Kd.int .i64) 3 W base ok (.slice A n c) l) : n = l.length ∧ Kd.C (Kd.int .i64) W A l.length l := by
 obtain ⟨A', c', e, hl, hf⟩ := h
 injection e with e1 e2 e3
 subst e1 e2 e3
 obtain ⟨-, -, h3⟩ := Kd.V_reads' (show Kd.V (Kd.int .i64) 3 W base ok (.slice A l.length c) l from ⟨A, c, rfl, hl, hf⟩)
 exact ⟨rfl, h3⟩
set_option maxHeartbeats 8000000 in
set_option maxRecDepth 100000 in
theorem Gcd_any {k : Nat} {d0 d1 : Bool} {A0 A1 : Option Addr} {n0 n1 m0 m1 : Nat} {l0 l1 : List Int} {r1 : Bool} {r2 : List Int} {P Q : Nat → Prop} {w : World} (hr0 : Kd.V (Kd.int .i64) 3 w 0 P (.slice A0 n0 m0) l0) (hr1 : Kd.V (Kd.int .i64) 3 w 0 Q (.slice A1 n1 m1) l1) (h : ashlarref01_Gcd.f k d0 l0 d1 l1 = some (r1, r2)) :
  Calls Tryz.prog 131 #[.agg #[.bool d0, .slice A0 n0 m0], .agg #[.bool d1, .slice A1 n1 m1]] w fun e w' => ∃ v, e = .returned (.agg #[.bool r1, v]) ∧ Kd.V (Kd.int .i64) 3 w' 0 (fun _ => True) v r2 ∧ Below w.heap.size w w' := by
 have HR0 := Lib.hid (show Kd.V (Kd.int .i64) 3 w 0 (fun k => k < w.heap.size ∨ w.heap.size + 5 ≤ k) (.slice A0 n0 m0) l0 from Kd.V_mono (Kd.V_bound hr0) (fun k hk => .inl hk.2))
 have HR1 := Lib.hid (show Kd.V (Kd.int .i64) 3 w 0 (fun k => k < w.heap.size ∨ w.heap.size + 5 ≤ k) (.slice A1 n1 m1) l1 from Kd.V_mono (Kd.V_bound hr1) (fun k hk => .inl hk.2))
 unfold ashlarref01_Gcd.f at h
 have H := Lib.hid h
 clear hr0 hr1 h
 go_enter Tryz.func131, Tryz.ntmps131
 go_wp2
 go_loopg [] k (fun kq w' => ∃ (X Y : Option Addr) (n0 c0 n1 c1 : Nat) (b0 : Bool) (x : List Int) (b1 : Bool) (y : List Int), Hid (ashlarref01_Gcd.l0 kq b0 x b1 y = some (r1, r2)) ∧ kq ≤ k ∧ Hid (Gv w w' X Y n0 c0 n1 c1 b0 x b1 y))
 case atStart => exact ⟨A0, A1, n0, m0, n1, m1, false, l0, false, l1, H, Nat.le_refl _, Lib.hid ⟨blk_alloc (blk_alloc (blk_newk (by simp) _) _) _, blk_alloc (blk_newk (by simp) _) _, blk_newk (by simp) _, Kd.V_below HR0.out Z3h0, Kd.V_below HR1.out Z3h0, Z3h0⟩⟩
 case round =>
  clear H
  obtain ⟨X, Y, n0, c0, n1, c1, b0, x, b1, y, H, hk, HG⟩ := hrel
  cases gk with
  | zero => have := H.out; simp [ashlarref01_Gcd.l0] at this
  | succ k1 =>
   have h := H.out
   clear H
   simp only [ashlarref01_Gcd.l0] at h
   obtain ⟨p0, p1, p2, p3, p4⟩ := HG.out.fx.cells
   obtain ⟨q0, q1, q2, q3, q4⟩ := HG.out.fy.cells
   obtain ⟨s0, s1, s2, s3, s4⟩ := HG.out.fr.cells
   rw [← (Vlen HG.out.vy).1] at h
   by_cases c1_ : (n1 : Int) > 0
   ·rw [if_pos c1_] at h
    replace h := Option.bind_eq_some_iff.1 h
    obtain ⟨⟨x1, x2, x3, x4⟩, hx, h⟩ := h
    have HU := Lib.hid hx
    have H := Lib.hid h
    have e1 : (0 < n1) = True := eq_true (by omega)
    clear hx h c1_
    go_wp2_with fail
    have hC0 := (Vlen HG.out.vx).2
    have hC1 := (Vlen HG.out.vy).2
    rw [(Vlen HG.out.vx).1, (Vlen HG.out.vy).1]
    refine (Over_any hC0 hC1 HU.out).mono ?_
    rintro e w2 ⟨v, u, rfl, hJv, hJu, hb⟩
    obtain ⟨A2, n2, k2, rfl⟩ := hJv.sh
    obtain ⟨A3, n3, k3, rfl⟩ := hJu.sh
    have HG3 := Gv.keep HG (show Below wr.heap.size wr ((w2.alloc (.cells #[.bool x1, .slice A2 n2 k2] 91)).alloc (.cells #[.bool x3, .slice A3 n3 k3] 91)) from (hb.alloc hb.size _).alloc (Nat.le_trans hb.size (by simp)) _)
    have hT : Bx ((w2.alloc (.cells #[.bool x1, .slice A2 n2 k2] 91)).alloc (.cells #[.bool x3, .slice A3 n3 k3] 91)) (w2.heap.size + 1) (.bool x3) (.slice A3 n3 k3) := blk_newk (by simp) _
    have hz : Kd.V (Kd.int .i64) 3 ((w2.alloc (.cells #[.bool x1, .slice A2 n2 k2] 91)).alloc (.cells #[.bool x3, .slice A3 n3 k3] 91)) 0 (fun k => k < w.heap.size ∨ w.heap.size + 5 ≤ k) (.slice A3 n3 k3) x4 := Kd.V_mono (Kd.R_V (base' := 0) (Kd.R_below hJu.toR Z3h0)) (fun k hk => .inr (by omega))
    have HT := (hT.far (g' := w.heap.size + 1 + 1 + 1) (i := 0) (u := .bool b1) (by have := hb.size; omega)).far (g' := w.heap.size + 1 + 1 + 1) (i := 1) (u := .slice Y n1 c1) (by have := hb.size; omega)
    obtain ⟨t0, t1, -⟩ := HT.cells
    have HG5 := Gv.turn HG3 hz (b2 := x3)
    obtain ⟨o0, o1, o2, o3, o4⟩ := HG3.out.fx.cells
    obtain ⟨r0, r1, r2, r3, r4⟩ := HG3.out.fy.cells
    clear hJv hJu hC0 hC1 hz hT HT HG HU p0 p1 p2 p3 p4 q0 q1 q2 q3 q4 s0 s1 s2 s3 s4 hb HG3
    go_wp2
    go_roundg k1
    case measure => omega
    case rel => exact ⟨_, _, _, _, _, _, _, _, _, _, H, by omega, HG5⟩
   ·rw [if_neg c1_] at h
    obtain ⟨rfl, rfl⟩ := Prod.mk.inj (Option.some.inj h)
    have e1 : (0 < n1) = False := eq_false (by omega)
    obtain ⟨-, y0, y1⟩ := HG.out.fr.put (.bool b0) (.slice X n0 c0)
    clear h c1_
    go_wp2
    refine bodyPost_ret (v := .agg #[.bool b0, .slice X n0 c0]) (by simp [results, Tryz.results131, go_sem, y0, y1]) rfl ⟨_, rfl, ?_, (HG.out.below.setCell (by simp only []; omega) _).setCell (by simp only []; omega) _⟩
    refine Kd.V_mono (Kd.V_far (Kd.V_far HG.out.vx ?_ _) ?_ _) (fun k hk => trivial)
    all_goals intro k hk; rcases hk with hk | hk <;> simp only [] <;> omega
end Go.Proofs.YtbpjnkeilhfajaaGreat.Rf
end

section
/- Numbers of the document in memory, and what its functions make of them. -/
namespace Go.Proofs.YtbpjnkeilhfajaaGreat.Big
set_option linter.unusedVariables false
set_option linter.unusedSimpArgs false
open Go.RowKit Go.Proofs.YtbpjnkeilhfajaaGreat.Given Go.Proofs.YtbpjnkeilhfajaaGreat.PNumReckons Go.Proofs.YtbpjnkeilhfajaaGreatW.PrintWords Go.Proofs.YtbpjnkeilhfajaaGreatW.PrintMore Go.Proofs.YtbpjnkeilhfajaaGreat.Ref Go.Proofs.YtbpjnkeilhfajaaGreat.Dig Go.Proofs.YtbpjnkeilhfajaaGreat.DigNumReckons Go.Proofs.YtbpjnkeilhfajaaGreat.Num Go.Proofs.YtbpjnkeilhfajaaGreat.Rf
def dn (x : Int) : Bool := decide (x < 0)
def Row (w : World) (A : Option Addr) (n c : Nat) (m : Nat) : Prop := n = (dg m).length ∧ Kd.V (Kd.int .i64) 3 w 0 (fun _ => True) (.slice A n c) (dg m)
theorem Row.below {w w' : World} {A : Option Addr} {n c m : Nat} (h : Row w A n c m) (hb : Below w.heap.size w w') : Row w' A n c m := ⟨h.1, Kd.V_below h.2 hb⟩
theorem Row.of {W : World} {base : Nat} {ok : Nat → Prop} {v : Value} {m : Nat} (h : Kd.V (Kd.int .i64) 3 W base ok v (dg m)) : ∃ A n c, v = .slice A n c ∧ Row W A n c m := by
 obtain ⟨A, c, hv, hl, hf⟩ := h
 exact ⟨A, _, c, hv, rfl, A, c, rfl, hl, Kd.F_mono hf fun _ _ => trivial⟩
def Out (w : World) (d : Bool) (m : Nat) (e : Ending) (w' : World) : Prop := ∃ A n c, e = .returned (.agg #[.bool d, .slice A n c]) ∧ Row w' A n c m ∧ Below w.heap.size w w'
theorem Out.mk' {w w' : World} {d : Bool} {m : Nat} {base : Nat} {ok : Nat → Prop} {v : Value} (h : Kd.V (Kd.int .i64) 3 w' base ok v (dg m)) (hb : Below w.heap.size w w') : Out w d m (.returned (.agg #[.bool d, v])) w' := by
 obtain ⟨A, n, c, rfl, hR⟩ := Row.of h
 exact ⟨A, n, c, rfl, hR, hb⟩
theorem Of_big {x : Int} (hx : In64 x) (w : World) : Calls Tryz.prog 72 #[.int .i64 x] w (Out w (dn x) x.natAbs) := by
 obtain ⟨k0, h⟩ := of_dg hx
 refine (Of_any (w := w) (h k0 (Nat.le_refl _))).mono ?_
 rintro e w' ⟨v, rfl, hv, hb⟩
 exact Out.mk' (Kd.R_V (base' := 0) hv.toR) hb
theorem Times_big {x y : Int} {A B : Option Addr} {n m c d : Nat} (w : World) (hx : Row w A n c x.natAbs) (hy : Row w B m d y.natAbs) (lx : (dg x.natAbs).length ≤ 1000) (ly : (dg y.natAbs).length ≤ 1000) :
  Calls Tryz.prog 71 #[.agg #[.bool (dn x), .slice A n c], .agg #[.bool (dn y), .slice B m d]] w (Out w (dn (x * y)) (x * y).natAbs) := by
 obtain ⟨rfl, hX⟩ := hx
 obtain ⟨rfl, hY⟩ := hy
 obtain ⟨k0, h⟩ := times_dg lx ly
 obtain ⟨-, cx, rx⟩ := Kd.V_reads' hX
 obtain ⟨-, cy, ry⟩ := Kd.V_reads' hY
 refine (Times_any rx ry (h k0 (Nat.le_refl _))).mono ?_
 rintro e w' ⟨v, rfl, hv, hb⟩
 exact Out.mk' (Kd.R_V (base' := 0) hv.toR) hb
theorem Plus_big {x y : Int} {A B : Option Addr} {n m c d : Nat} (w : World) (hx : Row w A n c x.natAbs) (hy : Row w B m d y.natAbs) (lx : (dg x.natAbs).length ≤ 1000) (ly : (dg y.natAbs).length ≤ 1000) :
  Calls Tryz.prog 73 #[.agg #[.bool (dn x), .slice A n c], .agg #[.bool (dn y), .slice B m d]] w (Out w (dn (x + y)) (x + y).natAbs) := by
 obtain ⟨rfl, hX⟩ := hx
 obtain ⟨rfl, hY⟩ := hy
 obtain ⟨k0, h⟩ := plus_dg lx ly
 obtain ⟨-, cx, rx⟩ := Kd.V_reads' hX
 obtain ⟨-, cy, ry⟩ := Kd.V_reads' hY
 refine (Plus_any rx ry (h k0 (Nat.le_refl _))).mono ?_
 rintro e w' ⟨v, rfl, hv, hb⟩
 exact Out.mk' (Kd.R_V (base' := 0) hv.toR) hb
def RowA (w : World) (lo : Nat) (A : Option Addr) (n c : Nat) (m : Nat) : Prop := n = (dg m).length ∧ Kd.V (Kd.int .i64) 3 w 0 (fun k => lo ≤ k) (.slice A n c) (dg m)
theorem RowA.row {w : World} {lo : Nat} {A : Option Addr} {n c m : Nat} (h : RowA w lo A n c m) : Row w A n c m := ⟨h.1, Kd.V_mono h.2 fun _ _ => trivial⟩
theorem RowA.set {w : World} {lo : Nat} {A : Option Addr} {n c m : Nat} (h : RowA w lo A n c m) {p : Addr} (hp : p.block < lo) (u : Value) : RowA (w.setCell p u) lo A n c m := ⟨h.1, Kd.V_far h.2 (fun k hk => by omega) u⟩
theorem RowA.below {w w' : World} {lo : Nat} {A : Option Addr} {n c m : Nat} (h : RowA w lo A n c m) (hb : Below w.heap.size w w') : RowA w' lo A n c m := ⟨h.1, Kd.V_below h.2 hb⟩
theorem RowA.of {W : World} {base lo : Nat} {v : Value} {m : Nat} (h : Kd.V (Kd.int .i64) 3 W base (fun k => lo ≤ k) v (dg m)) : ∃ A n c, v = .slice A n c ∧ RowA W lo A n c m := by
 obtain ⟨A, c, hv, hl, hf⟩ := h
 exact ⟨A, _, c, hv, rfl, A, c, rfl, hl, hf⟩
theorem Int_big {x : Nat} {a : Bool} {A : Option Addr} {n c : Nat} {v r : Int} {o : Bool} (w : World) (hx : Row w A n c x) (lx : (dg x).length ≤ 1000) (hv : (if a = true then -(x : Int) else x) = v) (hf : fitp v = (r, o)) :
  Calls Tryz.prog 70 #[.agg #[.bool a, .slice A n c]] w fun e w' => e = .returned (.tuple #[.int .i64 r, .bool o]) ∧ Below w.heap.size w w' := by
 obtain ⟨rfl, hX⟩ := hx
 obtain ⟨k0, h⟩ := int_dg a lx
 rw [hv, hf] at h
 obtain ⟨-, cx, rx⟩ := Kd.V_reads' hX
 exact Int_any rx (h k0 (Nat.le_refl _))
end Go.Proofs.YtbpjnkeilhfajaaGreat.Big
end

section
/- ashlarref01.Make: its walk, along the numbers of its rows. -/
namespace Go.Proofs.YtbpjnkeilhfajaaGreat.Big
set_option linter.unusedVariables false
set_option linter.unusedSimpArgs false
open Go.RowKit Go.Proofs.YtbpjnkeilhfajaaGreatW.PrintWords Go.Proofs.YtbpjnkeilhfajaaGreat.Given Go.Proofs.YtbpjnkeilhfajaaGreat.Dig Go.Proofs.YtbpjnkeilhfajaaGreat.DigNumReckons Go.Proofs.YtbpjnkeilhfajaaGreat.Num
theorem Row.zero {w : World} {A : Option Addr} {n c m : Nat} (h : Row w A n c m) : ((n : Int) = 0) = (m = 0) := by
 rw [h.1]; exact propext dg_len0
end Go.Proofs.YtbpjnkeilhfajaaGreat.Big
end

section
/- ashlarref01's products, quotients, sums and order of rats. -/
namespace Go.Proofs.YtbpjnkeilhfajaaGreat.Big
set_option linter.unusedVariables false
set_option linter.unusedSimpArgs false
open Go.RowKit Go.Proofs.YtbpjnkeilhfajaaGreatW.PrintWords Go.Proofs.YtbpjnkeilhfajaaGreat.Given Go.Proofs.YtbpjnkeilhfajaaGreat.Dig Go.Proofs.YtbpjnkeilhfajaaGreat.DigNumReckons Go.Proofs.YtbpjnkeilhfajaaGreat.Num
theorem len_of {x : Int} {n : Nat} (h : x.natAbs < 10 ^ n) (hn : n ≤ 1000) : (dg x.natAbs).length ≤ 1000 := Nat.le_trans (dg_len h) hn
theorem len1 {x : Int} (h : In64 x) : (dg x.natAbs).length ≤ 1000 := Nat.le_trans (len_in h) (by decide)
theorem abs1 {x : Int} (h : In64 x) : x.natAbs < 10 ^ 19 := by obtain ⟨h1, h2⟩ := h; omega
theorem abs2 {x y : Int} (hx : In64 x) (hy : In64 y) : (x * y).natAbs < 10 ^ 38 := by
 rw [Int.natAbs_mul, show (38 : Nat) = 19 + 19 from rfl, Nat.pow_add]
 exact Nat.mul_lt_mul_of_lt_of_lt (abs1 hx) (abs1 hy)
theorem len2 {x y : Int} (hx : In64 x) (hy : In64 y) : (dg (x * y).natAbs).length ≤ 1000 := len_of (abs2 hx hy) (by decide)
theorem sign_zero {n : Nat} {x : Int} (h : n = (dg x.natAbs).length) : ((n : Int) = 0) = (x = 0) := by
 rw [h]
 apply propext
 rw [dg_len0]
 omega
end Go.Proofs.YtbpjnkeilhfajaaGreat.Big
end

section
/- What layers 11 and 12 want of ref01: a product and a sum of int64s that fit. -/
namespace Go.Proofs.YtbpjnkeilhfajaaGreat.Rw
open Go.RowKit Go.Proofs.YtbpjnkeilhfajaaGreat.Given Go.Proofs.YtbpjnkeilhfajaaGreatW.PrintWords Go.Proofs.YtbpjnkeilhfajaaGreat.Dig Go.Proofs.YtbpjnkeilhfajaaGreat.DigNumReckons Go.Proofs.YtbpjnkeilhfajaaGreat.Num Go.Proofs.YtbpjnkeilhfajaaGreat.Big Go.Proofs.YtbpjnkeilhfajaaGreat.Ln Go.Proofs.YtbpjnkeilhfajaaGreat.Lin
set_option linter.unusedVariables false
set_option linter.unusedSimpArgs false
theorem dn_abs (v : Int) : (if dn v = true then -((v.natAbs : Nat) : Int) else ((v.natAbs : Nat) : Int)) = v := by
 unfold dn
 by_cases h : v < 0
 ·rw [if_pos (decide_eq_true h)]; omega
 ·rw [if_neg (by simpa using h)]; omega
theorem add_len {x y : Int} (hx : In64 x) (hy : In64 y) : (dg (x + y).natAbs).length ≤ 1000 := len_of (n := 38) (by
 have h1 := abs1 hx
 have h2 := abs1 hy
 have h3 : (x + y).natAbs ≤ x.natAbs + y.natAbs := Int.natAbs_add_le x y
 have : (10 : Nat) ^ 19 + 10 ^ 19 ≤ 10 ^ 38 := by decide
 omega) (by decide)
theorem okI_of {v p : Int} {o : Bool} (h : fitp v = (p, o)) : okI v = if o = true then some p else none := by
 by_cases hv : In64 v
 ·rw [show fitp v = (v, true) from if_pos hv] at h
  obtain ⟨rfl, rfl⟩ := Prod.mk.inj h
  rw [show okI v = some v from if_pos hv, if_pos rfl]
 ·rw [show fitp v = (0, false) from if_neg hv] at h
  obtain ⟨rfl, rfl⟩ := Prod.mk.inj h
  rw [show okI v = none from if_neg hv, if_neg (by decide)]
theorem fitp_in {v p : Int} {o : Bool} (h : fitp v = (p, o)) : In64 p := by
 by_cases hv : In64 v
 ·rw [show fitp v = (v, true) from if_pos hv] at h
  rw [← (Prod.mk.inj h).1]; exact hv
 ·rw [show fitp v = (0, false) from if_neg hv] at h
  rw [← (Prod.mk.inj h).1]; exact ⟨by decide, by decide⟩
end Go.Proofs.YtbpjnkeilhfajaaGreat.Rw
end

section
/- Plain: whole.Solve's search, and what it answers. -/
namespace Go.Proofs.YtbpjnkeilhfajaaGreat.Lin
open Go.RowKit Go.Proofs.YtbpjnkeilhfajaaGreat.Given Go.Proofs.YtbpjnkeilhfajaaGreat.Num Go.Proofs.YtbpjnkeilhfajaaGreat.Sim
set_option linter.unusedVariables false
def bnd (vars i : Nat) (s k : Int) : RowZ := ((List.replicate vars 0).set i s, k)
def fracI (p : List Rat) : Option Nat := p.findIdx? (fun x => decide (x.den ≠ 1))
def srch (vars : Int) : Nat → Nat → List RowZ → Int × Nat × List Int
 | 0, f, _ => (0, f, [])
 | _ + 1, 0, _ => (0, 0, [])
 | d + 1, f + 1, rows =>
  if (solve rows vars 10000).1 = 1 then
   match fracI (solve rows vars 10000).2.1 with
   | none => (1, f, (solve rows vars 10000).2.1.map (·.num))
   | some i =>
    if (srch vars d f (rows ++ [bnd vars.toNat i 1 (-(rdQ (solve rows vars 10000).2.1 i).floor)])).1 = 1 then srch vars d f (rows ++ [bnd vars.toNat i 1 (-(rdQ (solve rows vars 10000).2.1 i).floor)])
    else if (srch vars d (srch vars d f (rows ++ [bnd vars.toNat i 1 (-(rdQ (solve rows vars 10000).2.1 i).floor)])).2.1 (rows ++ [bnd vars.toNat i (-1) (rdQ (solve rows vars 10000).2.1 i).ceil])).1 = 1 ∨ (srch vars d f (rows ++ [bnd vars.toNat i 1 (-(rdQ (solve rows vars 10000).2.1 i).floor)])).1 = (srch vars d (srch vars d f (rows ++ [bnd vars.toNat i 1 (-(rdQ (solve rows vars 10000).2.1 i).floor)])).2.1 (rows ++ [bnd vars.toNat i (-1) (rdQ (solve rows vars 10000).2.1 i).ceil])).1 then
     srch vars d (srch vars d f (rows ++ [bnd vars.toNat i 1 (-(rdQ (solve rows vars 10000).2.1 i).floor)])).2.1 (rows ++ [bnd vars.toNat i (-1) (rdQ (solve rows vars 10000).2.1 i).ceil])
    else (0, (srch vars d (srch vars d f (rows ++ [bnd vars.toNat i 1 (-(rdQ (solve rows vars 10000).2.1 i).floor)])).2.1 (rows ++ [bnd vars.toNat i (-1) (rdQ (solve rows vars 10000).2.1 i).ceil])).2.1, [])
  else ((solve rows vars 10000).1, f, [])
theorem srch_step (vars : Int) (d f : Nat) (rows : List RowZ) {s : Int × List Rat × List Int} (hs : solve rows vars 10000 = s) :
  (s.1 ≠ 1 ∧ srch vars (d + 1) (f + 1) rows = (s.1, f, [])) ∨ (s.1 = 1 ∧ fracI s.2.1 = none ∧ srch vars (d + 1) (f + 1) rows = (1, f, s.2.1.map (·.num))) ∨
  ∃ i a b, s.1 = 1 ∧ fracI s.2.1 = some i ∧ srch vars d f (rows ++ [bnd vars.toNat i 1 (-(rdQ s.2.1 i).floor)]) = a ∧ srch vars d a.2.1 (rows ++ [bnd vars.toNat i (-1) (rdQ s.2.1 i).ceil]) = b ∧
   ((a.1 = 1 ∧ srch vars (d + 1) (f + 1) rows = a) ∨ (a.1 ≠ 1 ∧ (b.1 = 1 ∨ a.1 = b.1) ∧ srch vars (d + 1) (f + 1) rows = b) ∨ (a.1 ≠ 1 ∧ ¬ (b.1 = 1 ∨ a.1 = b.1) ∧ srch vars (d + 1) (f + 1) rows = (0, b.2.1, []))) := by
 subst hs
 by_cases h1 : (solve rows vars 10000).1 = 1
 ·cases h2 : fracI (solve rows vars 10000).2.1 with
  | none => exact .inr (.inl ⟨h1, rfl, by rw [srch, if_pos h1, h2]⟩)
  | some i =>
   refine .inr (.inr ⟨i, _, _, h1, rfl, rfl, rfl, ?_⟩)
   by_cases h3 : (srch vars d f (rows ++ [bnd vars.toNat i 1 (-(rdQ (solve rows vars 10000).2.1 i).floor)])).1 = 1
   ·exact .inl ⟨h3, by rw [srch, if_pos h1, h2]; dsimp only; rw [if_pos h3]⟩
   ·by_cases h4 : (srch vars d (srch vars d f (rows ++ [bnd vars.toNat i 1 (-(rdQ (solve rows vars 10000).2.1 i).floor)])).2.1 (rows ++ [bnd vars.toNat i (-1) (rdQ (solve rows vars 10000).2.1 i).ceil])).1 = 1 ∨ (srch vars d f (rows ++ [bnd vars.toNat i 1 (-(rdQ (solve rows vars 10000).2.1 i).floor)])).1 = (srch vars d (srch vars d f (rows ++ [bnd vars.toNat i 1 (-(rdQ (solve rows vars 10000).2.1 i).floor)])).2.1 (rows ++ [bnd vars.toNat i (-1) (rdQ (solve rows vars 10000).2.1 i).ceil])).1
    ·exact .inr (.inl ⟨h3, h4, by rw [srch, if_pos h1, h2]; dsimp only; rw [if_neg h3, if_pos h4]⟩)
    ·exact .inr (.inr ⟨h3, h4, by rw [srch, if_pos h1, h2]; dsimp only; rw [if_neg h3, if_neg h4]⟩)
 ·exact .inl ⟨h1, by rw [srch, if_neg h1]⟩
theorem srch_fuel (vars : Int) : ∀ (d f : Nat) (rows : List RowZ), (srch vars d f rows).2.1 ≤ f
 | 0, f, rows => Nat.le_refl _
 | d + 1, 0, rows => Nat.le_refl _
 | d + 1, f + 1, rows => by
  rcases srch_step vars d f rows rfl with ⟨-, h⟩ | ⟨-, -, h⟩ | ⟨i, a, b, -, -, ha, hb, h⟩
  ·rw [h]; exact Nat.le_succ f
  ·rw [h]; exact Nat.le_succ f
  ·have h1 := srch_fuel vars d f (rows ++ [bnd vars.toNat i 1 (-(rdQ (solve rows vars 10000).2.1 i).floor)])
   have h2 := srch_fuel vars d a.2.1 (rows ++ [bnd vars.toNat i (-1) (rdQ (solve rows vars 10000).2.1 i).ceil])
   rw [ha] at h1
   rw [hb] at h2
   rcases h with ⟨-, h⟩ | ⟨-, -, h⟩ | ⟨-, -, h⟩ <;> rw [h] <;> (try dsimp only) <;> omega
theorem pt_app {a b : List RowZ} {n : Nat} {x : Nat → Rat} : Pt (a ++ b) n x ↔ Pt a n x ∧ Pt b n x := by
 have ga : ∀ j, j < a.length → (a ++ b).getD j ([], 0) = a.getD j ([], 0) := fun j hj => by
  rw [List.getD_eq_getElem?_getD, List.getD_eq_getElem?_getD, List.getElem?_append_left hj]
 have gb : ∀ j, (a ++ b).getD (a.length + j) ([], 0) = b.getD j ([], 0) := fun j => by
  rw [List.getD_eq_getElem?_getD, List.getD_eq_getElem?_getD, List.getElem?_append_right (Nat.le_add_right _ _), Nat.add_sub_cancel_left]
 constructor
 ·intro h
  refine ⟨fun j hj => ?_, fun j hj => ?_⟩
  ·have := h j (by rw [List.length_append]; omega)
   unfold cz kz at this ⊢
   rwa [ga j hj] at this
  ·have := h (a.length + j) (by rw [List.length_append]; omega)
   unfold cz kz at this ⊢
   rwa [gb j] at this
 ·rintro ⟨h1, h2⟩ j hj
  rw [List.length_append] at hj
  by_cases hlt : j < a.length
  ·have := h1 j hlt
   unfold cz kz at this ⊢
   rwa [ga j hlt]
  ·have := h2 (j - a.length) (by omega)
   have e : a.length + (j - a.length) = j := by omega
   unfold cz kz at this ⊢
   rwa [← gb, e] at this
theorem pt_one {r : RowZ} {n : Nat} {x : Nat → Rat} : Pt [r] n x ↔ sumN n (fun k => ((r.1.getD k 0 : Int) : Rat) * x k) + (r.2 : Rat) ≤ 0 := by
 constructor
 ·intro h; exact h 0 (Nat.zero_lt_one)
 ·intro h j hj
  obtain rfl : j = 0 := by simpa using hj
  exact h
theorem pt_bnd {vars i : Nat} (hi : i < vars) {s k : Int} {x : Nat → Rat} : Pt [bnd vars i s k] vars x ↔ (s : Rat) * x i + (k : Rat) ≤ 0 := by
 rw [pt_one]
 have e : sumN vars (fun j => (((bnd vars i s k).1.getD j 0 : Int) : Rat) * x j) = (s : Rat) * x i := by
  have := sumN_one i (fun j => (s : Rat) * x j) vars
  rw [if_pos hi] at this
  rw [← this]
  refine sumN_congr fun j hj => ?_
  unfold bnd
  dsimp only
  rw [List.getD_eq_getElem?_getD, List.getElem?_set]
  by_cases e : i = j
  ·subst e; simp [hi]
  ·rw [if_neg e, if_neg (fun h => e h.symm)]
   simp [hj]
 rw [e]; rfl
theorem frac_some {p : List Rat} {i : Nat} (h : fracI p = some i) : i < p.length ∧ (rdQ p i).den ≠ 1 := by
 unfold fracI at h
 rw [List.findIdx?_eq_some_iff_getElem] at h
 obtain ⟨hi, h1, -⟩ := h
 refine ⟨hi, ?_⟩
 have e : rdQ p i = p[i] := by unfold rdQ; simp [List.getElem?_eq_getElem hi]
 rw [e]; simpa using h1
theorem frac_none {p : List Rat} (h : fracI p = none) : ∀ x, x ∈ p → x.den = 1 := by
 unfold fracI at h
 rw [List.findIdx?_eq_none_iff] at h
 intro x hx
 have := h x hx
 simpa using this
theorem floor_lt {x : Rat} (h : x.den ≠ 1) : (x.floor : Rat) < x := by
 have h1 := Rat.floor_le x
 by_cases h2 : (x.floor : Rat) = x
 ·exact (h (by rw [← h2]; rfl)).elim
 ·grind
theorem ceil_floor {x : Rat} (h : x.den ≠ 1) : x.ceil = x.floor + 1 := by
 rw [Rat.floor_def]
 unfold Rat.ceil
 rw [if_neg h]
theorem num_den1 {x : Rat} (h : x.den = 1) : (x.num : Rat) = x := by
 apply Rat.ext
 ·rfl
 ·rw [h]; rfl
theorem gap {x : Rat} (h : x.den ≠ 1) (p : Int) : (1 : Rat) * (p : Rat) + ((-x.floor : Int) : Rat) ≤ 0 ∨ ((-1 : Int) : Rat) * (p : Rat) + ((x.ceil : Int) : Rat) ≤ 0 := by
 rw [ceil_floor h]
 rcases Int.lt_or_le x.floor p with hp | hp
 ·right
  have h1 : x.floor + 1 ≤ p := hp
  have := Rat.intCast_le_intCast.2 h1
  rw [Rat.intCast_neg]
  grind
 ·left
  have := Rat.intCast_le_intCast.2 hp
  rw [Rat.intCast_neg]
  grind
theorem solve_may' {z : List RowZ} {v f : Int} (h : mayQ z v = false) : solve z v f = (0, [], []) := by
 unfold solve; rw [if_neg (by rw [h]; decide)]
theorem solve_lens {z : List RowZ} {v f : Int} (h : (solve z v f).1 ≠ 0) : 0 ≤ v ∧ ∀ r, r ∈ z → r.1.length = v.toNat := by
 cases hm : mayQ z v with
 | false => rw [solve_may' hm] at h; exact (h rfl).elim
 | true =>
  unfold mayQ at hm
  simp only [Bool.and_eq_true, decide_eq_true_eq, List.all_eq_true] at hm
  refine ⟨hm.1.1.1, fun r hr => ?_⟩
  have := hm.2 r hr
  omega
theorem solve_ok (z : List RowZ) (v f : Int) : ((solve z v f).1 = 1 → checkPoint z (solve z v f).2.1 = true) ∧ ((solve z v f).1 = 2 → checkFarkas z (solve z v f).2.2 = true) := by
 unfold solve
 by_cases hm : mayQ z v = true
 ·rw [if_pos hm]
  cases (made z v.toNat).bind (loop v.toNat f.toNat) with
  | none => exact ⟨(fun h => by cases h), (fun h => by cases h)⟩
  | some s =>
   obtain ⟨a, p, w⟩ := s
   dsimp only
   split
   ·exact ⟨(fun h => by cases h), (fun h => by cases h)⟩
   ·rename_i hc
    refine ⟨fun h => ?_, fun h => ?_⟩
    ·cases hp : checkPoint z p with
     | true => rfl
     | false => exact (hc (.inl ⟨h, hp⟩)).elim
    ·cases hp : checkFarkas z w with
     | true => rfl
     | false => exact (hc (.inr ⟨h, hp⟩)).elim
 ·rw [if_neg hm]; exact ⟨(fun h => by cases h), (fun h => by cases h)⟩
theorem solve_empty (v f : Int) : ∀ x, x ∈ (solve [] v f).2.1 → x.den = 1 := by
 intro x hx
 unfold solve at hx
 by_cases hm : mayQ [] v = true
 ·rw [if_pos hm] at hx
  have h1 : (made [] v.toNat).bind (loop v.toNat f.toNat) = some (1, List.replicate v.toNat 0, []) := by
   simp only [made, limF, Option.bind_some, List.length_nil, List.range_zero, List.map_nil, Nat.add_zero]
   unfold loop
   have hw : wrong v.toNat (⟨[], [], List.replicate v.toNat 0, []⟩ : Tab) = none := rfl
   rw [hw]
   simp
  rw [h1] at hx
  dsimp only at hx
  split at hx
  ·cases hx
  ·rw [List.eq_of_mem_replicate hx]; rfl
 ·rw [if_neg hm] at hx; cases hx
theorem frac_lt {vars : Int} {rows : List RowZ} {i : Nat} (h1 : (solve rows vars 10000).1 = 1) (hf : fracI (solve rows vars 10000).2.1 = some i) : i < vars.toNat := by
 obtain ⟨hi, hd⟩ := frac_some hf
 cases rows with
 | nil =>
  refine (hd (solve_empty vars 10000 _ ?_)).elim
  have e : rdQ (solve [] vars 10000).2.1 i = (solve [] vars 10000).2.1[i] := by unfold rdQ; simp [List.getElem?_eq_getElem hi]
  rw [e]; exact List.getElem_mem hi
 | cons r l =>
  have h2 := (point_true ((solve_ok (r :: l) vars 10000).1 h1) 0 (Nat.succ_pos _)).1
  have h3 := (solve_lens (z := r :: l) (v := vars) (f := 10000) (by rw [h1]; decide)).2 r (List.mem_cons_self ..)
  have e : ((r :: l).getD 0 ([], 0)) = r := rfl
  rw [e] at h2
  omega
theorem srch_no (vars : Int) : ∀ (d f : Nat) (rows : List RowZ), (srch vars d f rows).1 = 2 → ∀ p : Nat → Int, ¬ Pt rows vars.toNat (fun k => (p k : Rat))
 | 0, f, rows, h => by cases h
 | d + 1, 0, rows, h => by cases h
 | d + 1, f + 1, rows, h => by
  intro p hp
  rcases srch_step vars d f rows rfl with ⟨-, e⟩ | ⟨-, -, e⟩ | ⟨i, a, b, h1, hfr, ha, hb, e⟩
  ·rw [e] at h
   exact farkas_none (solve_lens (f := 10000) (v := vars) (z := rows) (by rw [h]; decide)).2 ((solve_ok rows vars 10000).2 h) _ hp
  ·rw [e] at h; cases h
  ·obtain ⟨hil, hden⟩ := frac_some hfr
   have hv := frac_lt h1 hfr
   have h22 : a.1 = 2 ∧ b.1 = 2 := by
    rcases e with ⟨e1, e⟩ | ⟨e1, e2, e⟩ | ⟨-, -, e⟩
    ·rw [e] at h; omega
    ·rw [e] at h; exact ⟨by omega, h⟩
    ·rw [e] at h; cases h
   rcases gap hden (p i) with hg | hg
   ·refine srch_no vars d f _ (by rw [ha]; exact h22.1) p (pt_app.2 ⟨hp, (pt_bnd hv).2 ?_⟩)
    rw [show ((1 : Int) : Rat) = 1 from rfl]; exact hg
   ·exact srch_no vars d a.2.1 _ (by rw [hb]; exact h22.2) p (pt_app.2 ⟨hp, (pt_bnd hv).2 hg⟩)
theorem srch_yes (vars : Int) : ∀ (d f : Nat) (rows : List RowZ), (srch vars d f rows).1 = 1 → (rows ≠ [] → (srch vars d f rows).2.2.length = vars.toNat) ∧ Pt rows vars.toNat (fun k => (((srch vars d f rows).2.2.getD k 0 : Int) : Rat))
 | 0, f, rows, h => by cases h
 | d + 1, 0, rows, h => by cases h
 | d + 1, f + 1, rows, h => by
  rcases srch_step vars d f rows rfl with ⟨h1, e⟩ | ⟨h1, hfr, e⟩ | ⟨i, a, b, h1, hfr, ha, hb, e⟩
  ·rw [e] at h; exact (h1 h).elim
  ·rw [e]
   have hden := frac_none hfr
   have hpt := point_true ((solve_ok rows vars 10000).1 h1)
   have hl := (solve_lens (z := rows) (v := vars) (f := 10000) (by rw [h1]; decide)).2
   have hlen : rows ≠ [] → (solve rows vars 10000).2.1.length = vars.toNat := fun hne => by
    have h0 : 0 < rows.length := List.length_pos_iff.2 hne
    have h2 := (hpt 0 h0).1
    rw [row_get h0] at h2
    rw [← h2, hl _ (List.getElem_mem h0)]
   refine ⟨fun hne => by rw [List.length_map]; exact hlen hne, fun j hj => ?_⟩
   have hne : rows ≠ [] := by rintro rfl; exact absurd hj (Nat.not_lt_zero _)
   have h3 := (hpt j hj).2
   rw [hlen hne] at h3
   have e2 : sumN vars.toNat (fun k => (cz rows j k : Rat) * ((((solve rows vars 10000).2.1.map (·.num)).getD k 0 : Int) : Rat)) = sumN vars.toNat (fun k => (cz rows j k : Rat) * rdQ (solve rows vars 10000).2.1 k) := by
    refine sumN_congr fun k hk => ?_
    have hk2 : k < (solve rows vars 10000).2.1.length := by rw [hlen hne]; exact hk
    have e3 : rdQ (solve rows vars 10000).2.1 k = (solve rows vars 10000).2.1[k] := by unfold rdQ; simp [List.getElem?_eq_getElem hk2]
    rw [e3, List.getD_eq_getElem?_getD, List.getElem?_map, List.getElem?_eq_getElem hk2]
    have := num_den1 (hden _ (List.getElem_mem hk2))
    simp [this]
   dsimp only
   rw [e2]
   grind
  ·have hrec : ∀ (g : Nat) (r : RowZ) (q : Int × Nat × List Int), srch vars d g (rows ++ [r]) = q → q.1 = 1 → (rows ≠ [] → q.2.2.length = vars.toNat) ∧ Pt rows vars.toNat (fun k => ((q.2.2.getD k 0 : Int) : Rat)) := fun g r q hq h1 => by
    subst hq
    have := srch_yes vars d g (rows ++ [r]) h1
    exact ⟨fun _ => this.1 (by simp), (pt_app.1 this.2).1⟩
   rcases e with ⟨e1, e⟩ | ⟨e1, e2, e⟩ | ⟨-, -, e⟩
   ·rw [e]; exact hrec _ _ _ ha e1
   ·rw [e] at h ⊢; exact hrec _ _ _ hb h
   ·rw [e] at h; cases h
end Go.Proofs.YtbpjnkeilhfajaaGreat.Lin
end

section
/- Plain: within a small box the search knows. -/
namespace Go.Proofs.YtbpjnkeilhfajaaGreat.Lin
open Go.RowKit Go.Proofs.YtbpjnkeilhfajaaGreat.Given Go.Proofs.YtbpjnkeilhfajaaGreat.Num Go.Proofs.YtbpjnkeilhfajaaGreat.Sim
set_option linter.unusedVariables false
def upd' (f : Nat → Int) (i : Nat) (c : Int) : Nat → Int := fun k => if k = i then c else f k
def vol (lo hi : Nat → Int) : Nat → Int
 | 0 => 1
 | n + 1 => vol lo hi n * (hi n - lo n + 1)
def tot (lo hi : Nat → Int) : Nat → Int
 | 0 => 0
 | n + 1 => tot lo hi n + (hi n - lo n)
theorem upd_at (f : Nat → Int) (i : Nat) (c : Int) : upd' f i c i = c := if_pos rfl
theorem upd_ne {f : Nat → Int} {i k : Nat} {c : Int} (h : k ≠ i) : upd' f i c k = f k := if_neg h
theorem vol_hi (lo hi : Nat → Int) (i : Nat) (c : Int) : ∀ n, n ≤ i → vol lo (upd' hi i c) n = vol lo hi n
 | 0, _ => rfl
 | n + 1, h => by rw [vol, vol, vol_hi lo hi i c n (by omega), upd_ne (by omega)]
theorem vol_lo (lo hi : Nat → Int) (i : Nat) (c : Int) : ∀ n, n ≤ i → vol (upd' lo i c) hi n = vol lo hi n
 | 0, _ => rfl
 | n + 1, h => by rw [vol, vol, vol_lo lo hi i c n (by omega), upd_ne (by omega)]
theorem vol_split (lo hi : Nat → Int) (i : Nat) (c : Int) : ∀ n, i < n → vol lo (upd' hi i c) n + vol (upd' lo i (c + 1)) hi n = vol lo hi n
 | 0, h => absurd h (Nat.not_lt_zero _)
 | n + 1, h => by
  by_cases e : i = n
  ·subst e
   rw [vol, vol, vol, vol_hi lo hi i c i (Nat.le_refl _), vol_lo lo hi i (c + 1) i (Nat.le_refl _), upd_at, upd_at, ← Int.mul_add]
   congr 1; omega
  ·rw [vol, vol, vol, upd_ne (fun h => e h.symm), upd_ne (fun h => e h.symm), ← Int.add_mul, vol_split lo hi i c n (by omega)]
theorem vol_pos {lo hi : Nat → Int} : ∀ {n : Nat}, (∀ k, k < n → lo k ≤ hi k) → 1 ≤ vol lo hi n
 | 0, _ => Int.le_refl _
 | n + 1, h => by
  have h1 := vol_pos (lo := lo) (hi := hi) (n := n) fun k hk => h k (by omega)
  have h2 := h n (by omega)
  rw [vol]
  have : 1 * 1 ≤ vol lo hi n * (hi n - lo n + 1) := Int.mul_le_mul h1 (by omega) (by decide) (by omega)
  omega
theorem tot_hi (lo hi : Nat → Int) (i : Nat) (c : Int) : ∀ n, tot lo (upd' hi i c) n = tot lo hi n + if i < n then c - hi i else 0
 | 0 => by rw [tot, tot, if_neg (Nat.not_lt_zero _)]; rfl
 | n + 1 => by
  rw [tot, tot, tot_hi lo hi i c n]
  by_cases e : n = i
  ·subst e; rw [upd_at, if_neg (Nat.lt_irrefl _), if_pos (Nat.lt_succ_self _)]; omega
  ·rw [upd_ne e]
   by_cases h : i < n
   ·rw [if_pos h, if_pos (by omega)]; omega
   ·rw [if_neg h, if_neg (by omega)]; omega
theorem tot_lo (lo hi : Nat → Int) (i : Nat) (c : Int) : ∀ n, tot (upd' lo i c) hi n = tot lo hi n - if i < n then c - lo i else 0
 | 0 => by rw [tot, tot, if_neg (Nat.not_lt_zero _)]; rfl
 | n + 1 => by
  rw [tot, tot, tot_lo lo hi i c n]
  by_cases e : n = i
  ·subst e; rw [upd_at, if_neg (Nat.lt_irrefl _), if_pos (Nat.lt_succ_self _)]; omega
  ·rw [upd_ne e]
   by_cases h : i < n
   ·rw [if_pos h, if_pos (by omega)]; omega
   ·rw [if_neg h, if_neg (by omega)]; omega
theorem tot_nonneg {lo hi : Nat → Int} : ∀ {n : Nat}, (∀ k, k < n → lo k ≤ hi k) → 0 ≤ tot lo hi n
 | 0, _ => Int.le_refl _
 | n + 1, h => by
  have h1 := tot_nonneg (lo := lo) (hi := hi) (n := n) fun k hk => h k (by omega)
  have h2 := h n (by omega)
  rw [tot]; omega
structure Boxed (rows : List RowZ) (vars : Nat) (lo hi : Nat → Int) : Prop where
 len : ∀ r, r ∈ rows → r.1.length = vars
 c9 : ∀ r, r ∈ rows → ∀ c, c ∈ r.1 → c.natAbs ≤ 9
 k9 : ∀ r, r ∈ rows → r.2.natAbs ≤ 9
 few : (rows.length : Int) + tot lo hi vars ≤ 27
 lo9 : ∀ k, k < vars → -9 ≤ lo k ∧ lo k ≤ hi k ∧ hi k ≤ 9
 keep : ∀ x : Nat → Rat, Pt rows vars x → ∀ k, k < vars → (lo k : Rat) ≤ x k ∧ x k ≤ (hi k : Rat)
theorem Boxed.small {rows : List RowZ} {vars : Nat} {lo hi : Nat → Int} (h : Boxed rows vars lo hi) (h3 : vars ≤ 3) : SmallZ rows vars := by
 have := tot_nonneg (lo := lo) (hi := hi) (n := vars) fun k hk => (h.lo9 k hk).2.1
 have := h.few
 exact ⟨h3, h.len, by omega, h.c9, h.k9⟩
theorem bnd_len (vars i : Nat) (s k : Int) : (bnd vars i s k).1.length = vars := by unfold bnd; simp
theorem bnd_c9 {vars i : Nat} {s k : Int} (hs : s.natAbs ≤ 1) : ∀ c, c ∈ (bnd vars i s k).1 → c.natAbs ≤ 9 := by
 intro c hc
 unfold bnd at hc
 dsimp only at hc
 rcases List.mem_or_eq_of_mem_set hc with h | h
 ·rw [List.eq_of_mem_replicate h]; decide
 ·rw [h]; omega
theorem Boxed.left {rows : List RowZ} {vars : Nat} {lo hi : Nat → Int} (h : Boxed rows vars lo hi) {i : Nat} (hv : i < vars) {c : Int} (h1 : lo i ≤ c) (h2 : c < hi i) : Boxed (rows ++ [bnd vars i 1 (-c)]) vars lo (upd' hi i c) := by
 have h9 := h.lo9 i hv
 refine ⟨fun r hr => ?_, fun r hr => ?_, fun r hr => ?_, ?_, fun k hk => ?_, fun x hx k hk => ?_⟩
 ·rcases List.mem_append.1 hr with hr | hr
  ·exact h.len r hr
  ·rw [List.mem_singleton.1 hr]; exact bnd_len _ _ _ _
 ·rcases List.mem_append.1 hr with hr | hr
  ·exact h.c9 r hr
  ·rw [List.mem_singleton.1 hr]; exact bnd_c9 (by decide)
 ·rcases List.mem_append.1 hr with hr | hr
  ·exact h.k9 r hr
  ·rw [List.mem_singleton.1 hr]; show (-c).natAbs ≤ 9; omega
 ·rw [List.length_append, List.length_singleton, tot_hi, if_pos hv]
  have := h.few
  omega
 ·by_cases e : k = i
  ·subst e; rw [upd_at]; omega
  ·rw [upd_ne e]; exact h.lo9 k hk
 ·obtain ⟨p1, p2⟩ := pt_app.1 hx
  have hk2 := h.keep x p1 k hk
  by_cases e : k = i
  ·subst e
   rw [upd_at]
   refine ⟨hk2.1, ?_⟩
   have := (pt_bnd hv).1 p2
   rw [Rat.intCast_neg, show ((1 : Int) : Rat) = 1 from rfl] at this
   grind
  ·rw [upd_ne e]; exact hk2
theorem Boxed.right {rows : List RowZ} {vars : Nat} {lo hi : Nat → Int} (h : Boxed rows vars lo hi) {i : Nat} (hv : i < vars) {c : Int} (h1 : lo i < c) (h2 : c ≤ hi i) : Boxed (rows ++ [bnd vars i (-1) c]) vars (upd' lo i c) hi := by
 have h9 := h.lo9 i hv
 refine ⟨fun r hr => ?_, fun r hr => ?_, fun r hr => ?_, ?_, fun k hk => ?_, fun x hx k hk => ?_⟩
 ·rcases List.mem_append.1 hr with hr | hr
  ·exact h.len r hr
  ·rw [List.mem_singleton.1 hr]; exact bnd_len _ _ _ _
 ·rcases List.mem_append.1 hr with hr | hr
  ·exact h.c9 r hr
  ·rw [List.mem_singleton.1 hr]; exact bnd_c9 (by decide)
 ·rcases List.mem_append.1 hr with hr | hr
  ·exact h.k9 r hr
  ·rw [List.mem_singleton.1 hr]; show c.natAbs ≤ 9; omega
 ·rw [List.length_append, List.length_singleton, tot_lo, if_pos hv]
  have := h.few
  omega
 ·by_cases e : k = i
  ·subst e; rw [upd_at]; omega
  ·rw [upd_ne e]; exact h.lo9 k hk
 ·obtain ⟨p1, p2⟩ := pt_app.1 hx
  have hk2 := h.keep x p1 k hk
  by_cases e : k = i
  ·subst e
   rw [upd_at]
   refine ⟨?_, hk2.2⟩
   have := (pt_bnd hv).1 p2
   rw [show ((-1 : Int) : Rat) = -1 from rfl] at this
   grind
  ·rw [upd_ne e]; exact hk2
theorem cnt_ok {vars n : Nat} (h3 : vars ≤ 3) (hn : n ≤ 27) : cnt (vars + n) vars ≤ 10000 + 1 := by
 have hm := cnt_mono vars (show vars + n ≤ 30 by omega)
 have hw := cnt_whole
 match vars, h3 with
 | 0, _ => omega
 | 1, _ => omega
 | 2, _ => omega
 | 3, _ => omega
theorem knows {vars : Nat} (h3 : vars ≤ 3) : ∀ (d f : Nat) (rows : List RowZ) (lo hi : Nat → Int), f ≤ d → Boxed rows vars lo hi → 2 * vol lo hi vars - 1 ≤ (f : Int) →
  ((srch vars d f rows).1 = 1 ∨ (srch vars d f rows).1 = 2) ∧ (f : Int) - (2 * vol lo hi vars - 1) ≤ ((srch vars d f rows).2.1 : Int)
 | 0, f, rows, lo, hi, hfd, hb, hf => by
  have := vol_pos (lo := lo) (hi := hi) (n := vars) fun k hk => (hb.lo9 k hk).2.1
  omega
 | d + 1, 0, rows, lo, hi, hfd, hb, hf => by
  have := vol_pos (lo := lo) (hi := hi) (n := vars) fun k hk => (hb.lo9 k hk).2.1
  omega
 | d + 1, f + 1, rows, lo, hi, hfd, hb, hf => by
  have hv1 := vol_pos (lo := lo) (hi := hi) (n := vars) fun k hk => (hb.lo9 k hk).2.1
  have hlen : rows.length ≤ 27 := by
   have := tot_nonneg (lo := lo) (hi := hi) (n := vars) fun k hk => (hb.lo9 k hk).2.1
   have := hb.few
   omega
  have hsol := solve_small (hb.small h3) (fuel := 10000) (cnt_ok h3 hlen)
  have hst := srch_step (vars : Int) d f rows rfl
  rw [show ((10000 : Nat) : Int) = 10000 from rfl] at hsol
  rcases hsol with ⟨p, hs, hpl, -, hpt⟩ | ⟨w, hs, -, -⟩
  ·rw [hs] at hst
   rcases hst with ⟨h1, e⟩ | ⟨h1, hfr, e⟩ | ⟨i, a, b, h1, hfr, ha, hbb, e⟩
   ·exact (h1 rfl).elim
   ·rw [e]; exact ⟨.inl rfl, by dsimp only; omega⟩
   ·rw [Int.toNat_natCast] at ha hbb
    obtain ⟨hi', hden⟩ := frac_some hfr
    dsimp only at hi' hden ha hbb
    have hiv : i < vars := by omega
    have hkp := hb.keep _ hpt i hiv
    have hfl := floor_lt hden
    have hcf := ceil_floor hden
    have hfloor := Rat.floor_le (rdQ p i)
    have hlo : lo i ≤ (rdQ p i).floor := Rat.le_floor_iff.2 hkp.1
    have hhi : (rdQ p i).floor < hi i := by
     have : ((rdQ p i).floor : Rat) < (hi i : Rat) := by
      have := hkp.2
      grind
     exact Rat.intCast_lt_intCast.1 this
    rw [hcf] at hbb
    have bl := hb.left hiv hlo hhi
    have br := hb.right hiv (show lo i < (rdQ p i).floor + 1 by omega) (show (rdQ p i).floor + 1 ≤ hi i by omega)
    have hsp := vol_split lo hi i (rdQ p i).floor vars hiv
    have vl := vol_pos (lo := lo) (hi := upd' hi i (rdQ p i).floor) (n := vars) fun k hk => (bl.lo9 k hk).2.1
    have vr := vol_pos (lo := upd' lo i ((rdQ p i).floor + 1)) (hi := hi) (n := vars) fun k hk => (br.lo9 k hk).2.1
    have ia := knows h3 d f _ lo _ (by omega) bl (by omega)
    rw [ha] at ia
    have hfa := srch_fuel (vars : Int) d f (rows ++ [bnd vars i 1 (-(rdQ p i).floor)])
    rw [ha] at hfa
    rcases e with ⟨e1, e⟩ | ⟨e1, e2, e⟩ | ⟨e1, e2, e⟩
    ·rw [e]; exact ⟨.inl e1, by omega⟩
    ·have ib := knows h3 d a.2.1 _ _ hi (by omega) br (by omega)
     rw [hbb] at ib
     rw [e]; exact ⟨ib.1, by omega⟩
    ·have ib := knows h3 d a.2.1 _ _ hi (by omega) br (by omega)
     rw [hbb] at ib
     exact (e2 (by omega)).elim
  ·rw [hs] at hst
   rcases hst with ⟨h1, e⟩ | ⟨h1, -, e⟩ | ⟨i, a, b, h1, -⟩
   ·rw [e]; exact ⟨.inr rfl, by dsimp only; omega⟩
   ·cases h1
   ·cases h1
def wsolve (rows : List RowZ) (vars fuel : Int) (chk : List Int → Bool) : Int × List Int :=
 if (srch vars fuel.toNat fuel.toNat rows).1 = 1 then
  if chk (srch vars fuel.toNat fuel.toNat rows).2.2 = true then (1, (srch vars fuel.toNat fuel.toNat rows).2.2) else (0, [])
 else ((srch vars fuel.toNat fuel.toNat rows).1, [])
end Go.Proofs.YtbpjnkeilhfajaaGreat.Lin
end
