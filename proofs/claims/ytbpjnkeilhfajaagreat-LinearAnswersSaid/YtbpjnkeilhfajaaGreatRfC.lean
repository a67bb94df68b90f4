import Derived.Test.YtbpjnkeilhfajaaGreatTl
import Derived.Test.YtbpjnkeilhfajaaGreatRfA
import Derived.Test.YtbpjnkeilhfajaaGreatLnJ
import Derived.OwnWalk
import Derived.Laws.MakeOwn
section
/- ashlarref01's Times. -/
namespace Go.Proofs.YtbpjnkeilhfajaaGreat.Rf
open Go.RowKit Go.Proofs.YtbpjnkeilhfajaaGreat.Given Go.Proofs.YtbpjnkeilhfajaaGreat.PNumReckons Go.Proofs.YtbpjnkeilhfajaaGreatW.PrintWords Go.Proofs.YtbpjnkeilhfajaaGreatW.PrintLast Go.Proofs.YtbpjnkeilhfajaaGreatW.PrintMore Go.Proofs.YtbpjnkeilhfajaaGreat.Ref Go.Proofs.YtbpjnkeilhfajaaGreat.Ln
set_option linter.unusedVariables false
set_option linter.unusedSimpArgs false
theorem ite_some {α : Type} {c : Prop} [Decidable c] {x : Option α} {r : α} (h : (if c then x else none) = some r) : c ∧ x = some r := by
 by_cases hc : c
 ·rw [if_pos hc] at h; exact ⟨hc, h⟩
 ·rw [if_neg hc] at h; cases h
theorem wpList_makeJ {W : World} {ops : Array Oper} {rest : List Oper} {o : Oper} {a : Act} {Q : Exit → Act → World → Prop} (hgd : o.guard = none) (s x : Operand) (ho : o.op = .makeSlice 69 s x)
  (base n : Nat) (hs : a.eval s = .int .i64 (n : Int)) (hx : a.eval x = .int .i64 (n : Int)) (hn : n ≤ 35184372088832) (hbase : base ≤ W.heap.size)
  (h : ∀ w', Hid (RowJ w' base (.slice (some ⟨W.heap.size, 0, none⟩) n n) (List.replicate n 0)) → Hid (Below W.heap.size W w') → wpList Tryz.prog ops Q rest (a.put o.dst (.slice (some ⟨W.heap.size, 0, none⟩) n n)) w') : wpList Tryz.prog ops Q (o :: rest) a W := by
 obtain ⟨i, h2, h3, h4, h5⟩ := info_parts infoJ
 refine wpList_make_full W hgd s x _ ho base 3 i (.int .i64 0) 1 Tryz.underlying69 h2 h3 h4 .i64 .i64 _ _ n hs hx rfl rfl (by rw [h5]; omega) (by unfold maxLen; omega) hbase (fun w' hown hg => ?_)
 refine h w' (Lib.hid ?_) (Lib.hid (Below.grown (Below.refl _ _) hg (Nat.le_refl _) (fun k hk => by cases hk)))
 unfold RowJ
 rw [List.length_replicate]
 have e : (madeCells (Value.int .i64 0).cells (n * 1)).toList = intv (List.replicate n 0) := by
  rw [Nat.mul_one, show (Value.int .i64 0).cells = #[.int .i64 0] from rfl, toList_madeCells_one]
  simp [intv]
 rw [← e]
 exact hown
theorem RowJ.lit {w : World} {base g n c : Nat} {l : List Int} (h : RowJ w base (.slice (some ⟨g, 0, none⟩) n c) l) : n = l.length ∧ l.length ≤ c := by
 obtain ⟨A, c', e, h1, _⟩ := h.read
 injection e with e1 e2 e3
 exact ⟨e2, by omega⟩
theorem RowJ.cell {w : World} {base g n c : Nat} {l : List Int} (h : RowJ w base (.slice (some ⟨g, 0, none⟩) n c) l) {i : Nat} (hi : i < n) : w.cell? ⟨g, i, none⟩ = some (.int .i64 (rd l i)) ∧ w.frozen? ⟨g, i, none⟩ = false ∧ base ≤ g := by
 obtain ⟨g', c', e, h1, _, h2, h3⟩ := h.at (i := i) (by rw [← h.lit.1]; exact hi)
 injection e with e1 e2 e3
 injection e1 with e1
 injection e1 with e1
 subst e1
 exact ⟨h2, h3 _, h1⟩
theorem RowJ.take {w : World} {base n c : Nat} {A : Option Addr} {l : List Int} (h : RowJ w base (.slice A n c) l) {m : Nat} (hm : m ≤ l.length) : RowJ w base (.slice A m c) (l.take m) := by
 obtain ⟨hl, hv⟩ := h
 have e : intv (l.take m) = (intv l).take m := by unfold intv; rw [List.map_take]
 have em : (l.take m).length = m := by rw [List.length_take]; omega
 unfold RowJ
 rw [em, e]
 refine ⟨by rw [List.length_take, intv_len]; omega, ?_⟩
 rcases hv with ⟨h1, h0⟩ | ⟨g, cap, cur, e1, hg, hb, hn, hx, hs, ht⟩
 ·injection h1 with e1 e2 e3
  subst e1 e2 e3
  exact .inl ⟨by rw [show m = 0 by omega], by omega⟩
 ·injection e1 with e1 e2 e3
  subst e1 e2 e3
  refine .inr ⟨g, c, cur, rfl, hg, hb, by omega, hx, hs, ?_⟩
  rw [← ht, List.take_take, Nat.mul_one, Nat.mul_one, Nat.min_eq_left hm]
theorem cut_J {d r1 : Bool} {l r2 : List Int} {W : World} {base n c : Nat} {A : Option Addr} (hJ : RowJ W base (.slice A n c) l) (h : ashlarref01_cut.f d l = some (r1, r2)) :
  Calls Tryz.prog 108 #[.agg #[.bool d, .slice A n c]] W fun e w' => ∃ m, e = .returned (.agg #[.bool r1, .slice A m c]) ∧ RowJ w' base (.slice A m c) r2 ∧ Below W.heap.size W w' := by
 obtain ⟨A', c', e, hc, hC⟩ := hJ.read
 injection e with e1 e2 e3
 subst e1 e2 e3
 unfold ashlarref01_cut.f at h
 obtain ⟨hl, h⟩ := ite_some h
 obtain ⟨rfl, rfl⟩ := Prod.mk.inj (Option.some.inj h)
 refine (cut_any d A c l W hC hc hl).mono ?_
 rintro e w' ⟨rfl, hb⟩
 exact ⟨_, by rw [cutL_len], (hJ.take (cutN_le l l.length)).below hb, hb⟩
structure Box3 (w W : World) (d0 d1 : Bool) (A0 A1 : Option Addr) (n0 c0 n1 c1 : Nat) : Prop where
 a : Bx W w.heap.size (.bool d0) (.slice A0 n0 c0)
 b : Bx W (w.heap.size + 1) (.bool d1) (.slice A1 n1 c1)
 r : Bx W (w.heap.size + 2) (.bool false) (.slice none 0 0)
 below : Below w.heap.size w W
theorem Box3.mk' (w : World) (d0 d1 : Bool) (A0 A1 : Option Addr) (n0 c0 n1 c1 : Nat) : Hid (Box3 w (((w.alloc (.cells #[.bool d0, .slice A0 n0 c0] 91)).alloc (.cells #[.bool d1, .slice A1 n1 c1] 91)).alloc (.cells #[.bool false, .slice none 0 0] 91)) d0 d1 A0 A1 n0 c0 n1 c1) :=
 Lib.hid ⟨blk_alloc (blk_alloc (blk_new _ _) _) _, blk_alloc (blk_newk (by simp) _) _, blk_newk (by simp) _, (by repeat (first | exact Below.refl _ _ | with_reducible assumption | refine Below.alloc ?_ (by first | exact Nat.le_refl _ | (simp; done) | (simp; omega) | omega) _ | refine Below.setCell ?_ (by first | exact Nat.le_refl _ | (simp; done) | (simp; omega) | omega) _ | refine Below.drew ?_ | refine bdrewN ?_ _))⟩
theorem Box3.keep {w W W1 : World} {d0 d1 : Bool} {A0 A1 : Option Addr} {n0 c0 n1 c1 : Nat} (h : Hid (Box3 w W d0 d1 A0 A1 n0 c0 n1 c1)) (hb : Below (w.heap.size + 3) W W1) : Hid (Box3 w W1 d0 d1 A0 A1 n0 c0 n1 c1) :=
 Lib.hid ⟨h.out.a.keep hb (by omega), h.out.b.keep hb (by omega), h.out.r.keep hb (by omega), h.out.below.trans (hb.mono (by omega))⟩
theorem Box3.facts {w W : World} {d0 d1 : Bool} {A0 A1 : Option Addr} {n0 c0 n1 c1 : Nat} (h : Hid (Box3 w W d0 d1 A0 A1 n0 c0 n1 c1)) : (W.cell? ⟨w.heap.size, 0, none⟩ = some (.bool d0) ∧ W.cell? ⟨w.heap.size, 1, none⟩ = some (.slice A0 n0 c0)) ∧ (W.cell? ⟨w.heap.size + 1, 0, none⟩ = some (.bool d1) ∧ W.cell? ⟨w.heap.size + 1, 1, none⟩ = some (.slice A1 n1 c1)) ∧ w.heap.size + 3 ≤ W.heap.size :=
 ⟨⟨h.out.a.cells.1, h.out.a.cells.2.1⟩, ⟨h.out.b.cells.1, h.out.b.cells.2.1⟩, h.out.r.cells.2.2.2.2⟩
set_option maxHeartbeats 8000000 in
set_option maxRecDepth 100000 in
theorem Times_any {k : Nat} {d0 d1 : Bool} {A0 A1 : Option Addr} {m0 m1 : Nat} {l0 l1 : List Int} {r1 : Bool} {r2 : List Int} {w : World} (hr0 : Kd.C (Kd.int .i64) w A0 l0.length l0) (hr1 : Kd.C (Kd.int .i64) w A1 l1.length l1) (h : ashlarref01_Times.f k d0 l0 d1 l1 = some (r1, r2)) :
  Calls Tryz.prog 71 #[.agg #[.bool d0, .slice A0 l0.length m0], .agg #[.bool d1, .slice A1 l1.length m1]] w fun e w' => ∃ v, e = .returned (.agg #[.bool r1, v]) ∧ RowJ w' w.heap.size v r2 ∧ Below w.heap.size w w' := by
 have HR0 := Lib.hid hr0
 have HR1 := Lib.hid hr1
 unfold ashlarref01_Times.f at h
 obtain ⟨N, hN⟩ : ∃ N, wrap64 (wrap64 ((l0.length : Int) + (l1.length : Int)) + 1) = N := ⟨_, rfl⟩
 rw [hN] at h
 replace h := ite_some h
 obtain ⟨hn0, h⟩ := h
 replace h := ite_some h
 obtain ⟨hn1, h⟩ := h
 obtain ⟨n, rfl⟩ : ∃ n : Nat, N = n := ⟨N.toNat, by omega⟩
 rw [Int.toNat_natCast] at h hn1
 have H := Lib.hid h
 have HN := Lib.hid hn1
 obtain ⟨n0, hl0⟩ : ∃ n0, l0.length = n0 := ⟨_, rfl⟩
 obtain ⟨n1, hl1⟩ : ∃ n1, l1.length = n1 := ⟨_, rfl⟩
 rw [hl0, hl1] at hN
 rw [hl0] at HR0
 rw [hl1] at HR1
 rw [hl0, hl1]
 have HL := Lib.hid (And.intro hl0 hl1)
 have hN2 : IntKind.i64.wrap (IntKind.i64.wrap ((n0 : Int) + (n1 : Int)) + 1) = (n : Int) := (i64_w _).trans ((congrArg (fun x => wrap64 (x + 1)) (i64_w _)).trans hN)
 clear hr0 hr1 h hn0 hn1 hl0 hl1
 have HX := Box3.mk' w d0 d1 A0 A1 n0 m0 n1 m1
 go_enter Tryz.func71, Tryz.ntmps71
 go_wp2_with (at_make; refine Hid.out ?_)
 refine Lib.hid ?_
 generalize ((w.alloc (.cells #[.bool d0, .slice A0 n0 m0] 91)).alloc (.cells #[.bool d1, .slice A1 n1 m1] 91)).alloc (.cells #[.bool false, .slice none 0 0] 91) = W at HX ⊢
 refine wpList_makeJ rfl (.tmp 16) (.tmp 16) rfl (w.heap.size + 3) n ?_ ?_ HN.out (Box3.facts HX).2.2 ?_
 ·exact congrArg (Value.int .i64) hN
 ·exact congrArg (Value.int .i64) hN
 intro w1 HJ HB
 have HX := Box3.keep HX (HB.out.mono (Box3.facts HX).2.2)
 generalize W.heap.size = g at HJ
 clear HB hN hN2
 obtain ⟨l, hl⟩ : ∃ l, List.replicate n (0 : Int) = l := ⟨_, rfl⟩
 rw [hl] at H HJ
 clear hl
 go_wp2
 go_loopg [6] k (fun kq v6 w' => ∃ (l : List Int) (i : Int), v6 = .int .i64 i ∧ Hid (ashlarref01_Times.l0 kq l i d0 l0 d1 l1 = some (r1, r2)) ∧ kq ≤ k ∧ Hid (RowJ w' (w.heap.size + 3) (.slice (some ⟨g, 0, none⟩) n n) l) ∧ Hid (Box3 w w' d0 d1 A0 A1 n0 m0 n1 m1))
 case atStart => exact ⟨l, 0, rfl, H, Nat.le_refl _, HJ, HX⟩
 case round =>
  clear HX HJ H
  obtain ⟨l, i, rfl, H, hk, HJ, HX⟩ := hrel
  cases gk with
  | zero => have := H.out; simp [ashlarref01_Times.l0] at this
  | succ k1 =>
   have h := H.out
   clear H
   simp only [ashlarref01_Times.l0] at h
   obtain ⟨⟨p0, p1⟩, ⟨q0, q1⟩, hB⟩ := Box3.facts HX
   rw [HL.out.1] at h
   by_cases c1 : i < (n0 : Int)
   ·rw [if_pos c1] at h
    have e1 := eq_true c1
    have H := Lib.hid h
    clear h
    go_wp2
    go_loopg [7] k1 (fun kq v7 w' => ∃ (l : List Int) (j : Int), v7 = .int .i64 j ∧ Hid (ashlarref01_Times.l1 kq l i j d0 l0 d1 l1 = some (r1, r2)) ∧ kq ≤ k1 ∧ Hid (RowJ w' (w.heap.size + 3) (.slice (some ⟨g, 0, none⟩) n n) l) ∧ Hid (Box3 w w' d0 d1 A0 A1 n0 m0 n1 m1))
    case atStart => exact ⟨l, 0, rfl, H, Nat.le_refl _, HJ, HX⟩
    case round =>
     clear HX HJ H p0 p1 q0 q1 hB
     obtain ⟨l, j, rfl, H, hk2, HJ, HX⟩ := hrel
     cases gk with
     | zero => have := H.out; simp [ashlarref01_Times.l1] at this
     | succ k2 =>
      have h := H.out
      clear H
      simp only [ashlarref01_Times.l1] at h
      obtain ⟨⟨p0, p1⟩, ⟨q0, q1⟩, hB⟩ := Box3.facts HX
      rw [HL.out.1, HL.out.2, ← HJ.out.lit.1] at h
      by_cases c2 : j < (n1 : Int)
      ·rw [if_pos c2] at h
       obtain ⟨d, hd⟩ : ∃ d, wrap64 (i + j) = d := ⟨_, rfl⟩
       rw [hd] at h
       have HD := Lib.hid (And.intro hd ((i64_w _).trans hd))
       clear hd
       replace h := ite_some h
       obtain ⟨hd0, h⟩ := h
       replace h := ite_some h
       obtain ⟨hdn, h⟩ := h
       replace h := ite_some h
       obtain ⟨hi0, h⟩ := h
       replace h := ite_some h
       obtain ⟨-, h⟩ := h
       replace h := ite_some h
       obtain ⟨hj0, h⟩ := h
       obtain ⟨d, rfl⟩ : ∃ m : Nat, d = m := ⟨d.toNat, by omega⟩
       obtain ⟨i, rfl⟩ : ∃ m : Nat, i = m := ⟨i.toNat, by omega⟩
       obtain ⟨j, rfl⟩ : ∃ m : Nat, j = m := ⟨j.toNat, by omega⟩
       obtain ⟨ad0, rfl, x0⟩ := Kd.at_int (Kd.C_below HR0.out HX.out.below) (i : Int) hi0 c1
       obtain ⟨ad1, rfl, x1⟩ := Kd.at_int (Kd.C_below HR1.out HX.out.below) (j : Int) hj0 c2
       obtain ⟨x2, x3, hg⟩ := HJ.out.cell (i := d) (by omega)
       rw [Int.toNat_natCast] at x0 x1 h
       obtain ⟨y0, hy0⟩ : ∃ y, rd l0 (i : Int) = y := ⟨_, rfl⟩
       obtain ⟨y1, hy1⟩ : ∃ y, rd l1 (j : Int) = y := ⟨_, rfl⟩
       obtain ⟨y2, hy2⟩ : ∃ y, rd l (d : Int) = y := ⟨_, rfl⟩
       rw [hy0] at x0 h
       rw [hy1] at x1 h
       rw [hy2] at x2 h
       have HC := Lib.hid (show Cells [(⟨w.heap.size, 1, none⟩, .slice (some ad0) n0 m0), (⟨w.heap.size + 1, 1, none⟩, .slice (some ad1) n1 m1), (ad0.add i, .int .i64 y0), (ad1.add j, .int .i64 y1), (⟨g, d, none⟩, .int .i64 y2)] wr from ⟨p1, q1, x0, x1, x2, trivial⟩)
       have H := Lib.hid h
       have e2 := eq_true c2
       have b1 : (d < n) = True := eq_true (by omega)
       have b2 : (i < n0) = True := eq_true (by omega)
       have b3 : (j < n1) = True := eq_true (by omega)
       clear h c1 c2 hy0 hy1 hy2 x0 x1 x2 hd0 hdn hi0 hj0 p0 q0
       obtain ⟨hd, hd2⟩ := HD.out
       go_wp2_with fail
       refine wp_region_L 23 (Hd _ wr wr.heap.size) (by kernel_rfl) (⟨Nat.le_refl _, HC.out.keep (Below.refl _ _).drew, (Below.refl _ _).drew⟩) (fun hHeld => ?_)
       refine tl0.go ?_
       refine tl1.go ?_
       refine tl2.go ?_
       refine tl3.go ?_
       refine tl4.go ?_
       refine tl5.go ?_
       refine tl6.go ?_
       refine tl7.go ?_
       refine tl8.go ?_
       refine tl9.go ?_
       refine tl10.go ?_
       refine tl11.go ?_
       refine tl12.go ?_
       refine tl13.go ?_
       refine tl14.go ?_
       refine tl15.go ?_
       refine tl16.go ?_
       refine tl17.go ?_
       refine tl18.go ?_
       refine tl19.go ?_
       refine tl20.go ?_
       refine tl21.go ?_
       refine tl22.go ?_
       refine wpAnyL_ready (rs := [23]) (by kernel_rfl) (by simp) (al23 (fun K hK => ?_) (AllReadyL.nil))
       focus (have x5 : wr.cell? ⟨g, d, none⟩ = some (.int .i64 y2) := HC.out.2.2.2.2.1; go_simp)
       refine hK.out _ _ (fun h => absurd rfl h) (fun _ => ?_)
       focus (clear hK K; try simp only [Act.put, List.setIfInBounds_toArray, List.set_cons_zero, List.set_cons_succ])
       refine wpAnyL_done (by kernel_rfl) ?_ _; rotate_left 1
       clear hd hd2
       have HJ := Lib.hid (show RowJ ((wr.setCell ⟨g, d, none⟩ (.int .i64 (IntKind.i64.wrap (y2 + IntKind.i64.wrap (y0 * y1))))).drew) (w.heap.size + 3) (.slice (some ⟨g, 0, none⟩) n n) (l.set d (wrap64 (y2 + wrap64 (y0 * y1)))) from by rw [i64_w, i64_w]; exact (HJ.out.set d _).below ((Below.refl _ _).drew))
       have HX := Box3.keep HX (show Below (w.heap.size + 3) wr ((wr.setCell ⟨g, d, none⟩ (.int .i64 (IntKind.i64.wrap (y2 + IntKind.i64.wrap (y0 * y1))))).drew) from ((Below.refl _ _).setCell hg _).drew)
       generalize (wr.setCell ⟨g, d, none⟩ (.int .i64 (IntKind.i64.wrap (y2 + IntKind.i64.wrap (y0 * y1))))).drew = w2 at HJ HX ⊢
       go_wp2
       go_roundg k2
       case measure => omega
       case rel => exact ⟨_, _, rfl, H, by omega, HJ, HX⟩
      ·rw [if_neg c2] at h
       have e2 := eq_false c2
       have H := Lib.hid h
       clear h
       go_wp2
       go_loopg [8] k2 (fun kq v8 w' => ∃ (l : List Int) (j : Int), v8 = .int .i64 j ∧ Hid (ashlarref01_Times.l2 kq l i j d0 l0 d1 l1 = some (r1, r2)) ∧ kq ≤ k2 ∧ Hid (RowJ w' (w.heap.size + 3) (.slice (some ⟨g, 0, none⟩) n n) l) ∧ Hid (Box3 w w' d0 d1 A0 A1 n0 m0 n1 m1))
       case atStart => exact ⟨l, 0, rfl, H, Nat.le_refl _, HJ, HX⟩
       case round =>
        clear HX HJ H p0 p1 q0 q1 hB e1 e2 c1 c2
        obtain ⟨l, j, rfl, H, hk3, HJ, HX⟩ := hrel
        cases gk with
        | zero => have := H.out; simp [ashlarref01_Times.l2] at this
        | succ k3 =>
         have h := H.out
         clear H
         simp only [ashlarref01_Times.l2] at h
         rw [← HJ.out.lit.1] at h
         obtain ⟨d, hd⟩ : ∃ d, wrap64 (j + 1) = d := ⟨_, rfl⟩
         rw [hd] at h
         have HD := Lib.hid (And.intro hd ((i64_w _).trans hd))
         clear hd
         by_cases c3 : d < (n : Int)
         ·rw [if_pos c3] at h
          replace h := ite_some h
          obtain ⟨hd0, h⟩ := h
          replace h := ite_some h
          obtain ⟨hj0, h⟩ := h
          replace h := ite_some h
          obtain ⟨hjn, h⟩ := h
          rw [Option.bind_some] at h
          obtain ⟨d, rfl⟩ : ∃ m : Nat, d = m := ⟨d.toNat, by omega⟩
          obtain ⟨j, rfl⟩ : ∃ m : Nat, j = m := ⟨j.toNat, by omega⟩
          obtain ⟨x2, x3, hg⟩ := HJ.out.cell (i := d) (by omega)
          obtain ⟨x0, x1, -⟩ := HJ.out.cell (i := j) (by omega)
          rw [Int.toNat_natCast, Int.toNat_natCast] at h
          obtain ⟨y0, hy0⟩ : ∃ y, rd l (j : Int) = y := ⟨_, rfl⟩
          obtain ⟨y2, hy2⟩ : ∃ y, rd l (d : Int) = y := ⟨_, rfl⟩
          rw [hy0] at x0 h
          rw [hy2] at x2 h
          have HC := Lib.hid (show Cells [(⟨g, j, none⟩, .int .i64 y0), (⟨g, d, none⟩, .int .i64 y2)] wr from ⟨x0, x2, trivial⟩)
          have b1 : (d < n) = True := eq_true (by omega)
          have b2 : (j < n) = True := eq_true (by omega)
          have HJ1 := Lib.hid (show RowJ ((wr.setCell ⟨g, d, none⟩ (.int .i64 (IntKind.i64.wrap (y2 + IntKind.i64.wrap (y0.tdiv 10))))).drew) (w.heap.size + 3) (.slice (some ⟨g, 0, none⟩) n n) (l.set d (wrap64 (y2 + wrap64 (y0.tdiv 10)))) from by rw [i64_w, i64_w]; exact (HJ.out.set d _).below ((Below.refl _ _).drew))
          have HX1 := Box3.keep HX (show Below (w.heap.size + 3) wr ((wr.setCell ⟨g, d, none⟩ (.int .i64 (IntKind.i64.wrap (y2 + IntKind.i64.wrap (y0.tdiv 10))))).drew) from ((Below.refl _ _).setCell hg _).drew)
          obtain ⟨l', hl'⟩ : ∃ l', l.set d (wrap64 (y2 + wrap64 (y0.tdiv 10))) = l' := ⟨_, rfl⟩
          rw [hl'] at h HJ1
          have H := Lib.hid h
          clear h c3 hy0 hy2 x0 x2 hd0 hj0 HJ HX hl'
          obtain ⟨hd, hd2⟩ := HD.out
          go_wp2_with fail
          refine wp_region_L 15 (Hd _ wr wr.heap.size) (by kernel_rfl) (⟨Nat.le_refl _, HC.out.keep (Below.refl _ _).drew, (Below.refl _ _).drew⟩) (fun hHeld => ?_)
          refine tl0.go ?_
          refine tl1.go ?_
          refine tl2.go ?_
          refine tl3.go ?_
          refine tl4.go ?_
          refine tl5.go ?_
          refine tl6.go ?_
          refine tl7.go ?_
          refine tl8.go ?_
          refine tl9.go ?_
          refine tl10.go ?_
          refine tl11.go ?_
          refine tl12.go ?_
          refine tl13.go ?_
          refine tl14.go ?_
          refine wpAnyL_ready (rs := [15]) (by kernel_rfl) (by simp) (al15 (fun K hK => ?_) (AllReadyL.nil))
          focus (have x5 : wr.cell? ⟨g, d, none⟩ = some (.int .i64 y2) := HC.out.2.1; go_simp)
          refine hK.out _ _ (fun h => absurd rfl h) (fun _ => ?_)
          focus (clear hK K; try simp only [Act.put, List.setIfInBounds_toArray, List.set_cons_zero, List.set_cons_succ])
          refine wpAnyL_done (by kernel_rfl) ?_ _; rotate_left 1
          clear hd hd2
          generalize (wr.setCell ⟨g, d, none⟩ (.int .i64 (IntKind.i64.wrap (y2 + IntKind.i64.wrap (y0.tdiv 10))))).drew = w2 at HJ1 HX1 ⊢
          obtain ⟨z0, z1, hg2⟩ := HJ1.out.cell (i := j) (by omega)
          go_wp2
          go_roundg k3
          case measure => omega
          case rel => exact ⟨_, _, by first | rfl | exact congrArg (Value.int .i64) HD.out.1, H, by omega, Lib.hid (HJ1.out.set j _), Box3.keep HX1 ((Below.refl _ _).setCell hg2 _)⟩
         ·rw [if_neg c3] at h
          have e3 := eq_false c3
          have H := Lib.hid h
          clear h
          obtain ⟨hd, hd2⟩ := HD.out
          go_wp2
          go_roundg k3
          case measure => omega
          case rel => exact ⟨_, _, rfl, H, by omega, HJ, HX⟩
   ·rw [if_neg c1] at h
    have e1 := eq_false c1
    replace h := Option.bind_eq_some_iff.1 h
    obtain ⟨⟨x1, x2⟩, hx, h⟩ := h
    obtain ⟨rfl, rfl⟩ := Prod.mk.inj (Option.some.inj h)
    have H := Lib.hid hx
    clear h hx
    go_wp2_with fail
    refine (cut_J (d := !d0 == d1) HJ.out (by have := H.out; revert this; cases d0 <;> cases d1 <;> exact id)).mono ?_
    rintro e w2 ⟨m, rfl, hJ, hb⟩
    have HJ1 := Lib.hid hJ
    have HX1 := Box3.keep HX (hb.mono hB)
    clear hJ hb HJ H
    obtain ⟨z0, z1, z2, z3, z4⟩ := HX1.out.r.cells
    obtain ⟨-, y0, y1⟩ := HX1.out.r.put (.bool x1) (.slice (some ⟨g, 0, none⟩) m n)
    go_wp2
    exact bodyPost_ret (v := .agg #[.bool x1, .slice (some ⟨g, 0, none⟩) m n]) (by simp [results, Tryz.results71, go_sem, y0, y1]) rfl ⟨_, rfl, ((HJ1.out.far (by omega) _).far (by omega) _).low (by omega), (HX1.out.below.setCell (by simp; omega) _).setCell (by simp; omega) _⟩
end Go.Proofs.YtbpjnkeilhfajaaGreat.Rf
end

section
/- ashlarref01's Plus. -/
namespace Go.Proofs
theorem Zp3f {p q : Prop} (hq : q) (h : p = q := by first | (simp only [Act.put, List.setIfInBounds_toArray, List.set_cons_zero, List.set_cons_succ]; done) | (simp only [Act.put, List.setIfInBounds_toArray, List.set_cons_zero, List.set_cons_succ]; rfl) | rfl) : p := Eq.mpr h hq
theorem Z3f0 {p : Prop} (h : p := by simp [results, Tryz.results73, go_sem, y0, y1]) : p := h
end Go.Proofs
namespace Go.Proofs.YtbpjnkeilhfajaaGreat.Rf
open Go.RowKit Go.Proofs.YtbpjnkeilhfajaaGreat.Given Go.Proofs.YtbpjnkeilhfajaaGreat.PNumReckons Go.Proofs.YtbpjnkeilhfajaaGreatW.PrintWords Go.Proofs.YtbpjnkeilhfajaaGreatW.PrintLast Go.Proofs.YtbpjnkeilhfajaaGreatW.PrintMore Go.Proofs.YtbpjnkeilhfajaaGreat.Ref Go.Proofs.YtbpjnkeilhfajaaGreat.Ln
set_option linter.unusedVariables false
set_option linter.unusedSimpArgs false
attribute [local go_sem] max2_mx max_two
set_option maxHeartbeats 8000000 in
set_option maxRecDepth 100000 in
theorem Plus_any {k : Nat} {d0 d1 : Bool} {A0 A1 : Option Addr} {m0 m1 : Nat} {l0 l1 : List Int} {r1 : Bool} {r2 : List Int} {w : World} (hr0 : Kd.C (Kd.int .i64) w A0 l0.length l0) (hr1 : Kd.C (Kd.int .i64) w A1 l1.length l1) (h : ashlarref01_Plus.f k d0 l0 d1 l1 = some (r1, r2)) :
  Calls Tryz.prog 73 #[.agg #[.bool d0, .slice A0 l0.length m0], .agg #[.bool d1, .slice A1 l1.length m1]] w fun e w' => ∃ v, e = .returned (.agg #[.bool r1, v]) ∧ RowJ w' w.heap.size v r2 ∧ Below w.heap.size w w' := by
 have HR0 := Lib.hid hr0
 have HR1 := Lib.hid hr1
 have HX := Box3.mk' w d0 d1 A0 A1 l0.length m0 l1.length m1
 clear hr0 hr1
 unfold ashlarref01_Plus.f at h
 by_cases c : (d0 != d1) = true
 ·rw [if_pos c] at h
  replace h := Option.bind_eq_some_iff.1 h
  obtain ⟨t, ht, h⟩ := h
  have HT := Lib.hid ht
  have H := Lib.hid h
  have c' : (!d0 == d1) = true := by revert c; cases d0 <;> cases d1 <;> exact id
  clear h ht
  go_enter Tryz.func73, Tryz.ntmps73
  go_wp2_with fail
  generalize ((w.alloc (.cells #[.bool d0, .slice A0 l0.length m0] 91)).alloc (.cells #[.bool d1, .slice A1 l1.length m1] 91)).alloc (.cells #[.bool false, .slice none 0 0] 91) = W at HX ⊢
  have HR0 := Lib.hid (Kd.C_below HR0.out HX.out.below)
  have HR1 := Lib.hid (Kd.C_below HR1.out HX.out.below)
  refine (size_any HR0.out HR1.out HT.out).mono ?_
  rintro e w1 ⟨rfl, rfl⟩
  obtain ⟨⟨p0, p1⟩, ⟨q0, q1⟩, hB⟩ := Box3.facts HX
  have HC := Lib.hid (show Cells [(⟨w.heap.size, 0, none⟩, .bool d0), (⟨w.heap.size, 1, none⟩, .slice A0 l0.length m0), (⟨w.heap.size + 1, 0, none⟩, .bool d1), (⟨w.heap.size + 1, 1, none⟩, .slice A1 l1.length m1)] w1 from ⟨p0, p1, q0, q1, trivial⟩)
  have h := H.out
  by_cases c2 : t < 0
  ·rw [if_pos c2] at h
   replace h := Option.bind_eq_some_iff.1 h
   obtain ⟨l, hl, h⟩ := h
   replace h := Option.bind_eq_some_iff.1 h
   obtain ⟨⟨x1, x2⟩, hx, h⟩ := h
   obtain ⟨rfl, rfl⟩ := Prod.mk.inj (Option.some.inj h)
   have HA := Lib.hid hl
   have HU := Lib.hid hx
   have e2 := eq_true c2
   clear h hl hx c c2 H HT
   go_wp2_with fail
   refine wp_region_L 9 (Hd _ w1 w1.heap.size) (by kernel_rfl) (⟨Nat.le_refl _, HC.out.keep (Below.refl _ _).drew, (Below.refl _ _).drew⟩) (fun hHeld => ?_)
   refine tl0.go ?_
   refine tl1.go ?_
   refine tl2.go ?_
   refine tl3.go ?_
   refine tl4.go ?_
   refine tl5.go ?_
   refine wpAnyL_ready (rs := [6]) (by kernel_rfl) (by simp) (al6 (fun K hK => ?_) (AllReadyL.nil))
   focus go_simp
   focus (refine (apart_any (Kd.C_below HR1.out hHeld.below) (Kd.C_below HR0.out hHeld.below) HA.out).mono ?_; rintro e w2 ⟨v2, rfl, hJ2, hb2⟩; have HJ2 := Lib.hid (hJ2.low hHeld.size); obtain ⟨A2, n2, k2, rfl⟩ := hJ2.sh; clear hJ2)
   focus try simp only []
   refine hK.out _ _ (fun _ => ?_) (fun hHeld => ?_)
   ·exact hHeld.keep hb2
   focus (have hHeld := hHeld (by decide); clear hK K; refine Zp3f ?_)
   refine tl7.go ?_
   refine wpAnyL_ready (rs := [8]) (by kernel_rfl) (by simp) (al8 (fun K hK => ?_) (AllReadyL.nil))
   focus go_simp
   focus (refine (cut_J HJ2.out HU.out).mono ?_; rintro e w2 ⟨m2, rfl, hJ3, hb2⟩; have HJ3 := Lib.hid hJ3; clear hJ3)
   focus try simp only []
   refine hK.out _ _ (fun _ => ?_) (fun hHeld => ?_)
   ·exact hHeld.keep hb2
   focus (have hHeld := hHeld (by decide); clear hK K; refine Zp3f ?_)
   refine wpAnyL_ready (rs := [9]) (by kernel_rfl) (by simp) (al9 (fun K hK => ?_) (AllReadyL.nil))
   focus (have HX2 := Box3.keep HX (hHeld.below.mono hB); obtain ⟨z0, z1, z2, z3, z4⟩ := HX2.out.r.cells; go_simp)
   refine hK.out _ _ (fun h => absurd rfl h) (fun _ => ?_)
   focus (clear hK K; refine Zp3f ?_)
   refine wpAnyL_done (by kernel_rfl) ?_ _; rotate_left 1
   obtain ⟨-, y0, y1⟩ := HX2.out.r.put (.bool x1) (.slice A2 m2 k2)
   go_wp2
   exact bodyPost_ret (v := .agg #[.bool x1, .slice A2 m2 k2]) Z3f0 rfl ⟨_, rfl, ((HJ3.out.far (by omega) _).far (by omega) _).low (by omega), (HX2.out.below.setCell (by simp; omega) _).setCell (by simp; omega) _⟩
  ·rw [if_neg c2] at h
   replace h := Option.bind_eq_some_iff.1 h
   obtain ⟨l, hl, h⟩ := h
   replace h := Option.bind_eq_some_iff.1 h
   obtain ⟨⟨x1, x2⟩, hx, h⟩ := h
   obtain ⟨rfl, rfl⟩ := Prod.mk.inj (Option.some.inj h)
   have HA := Lib.hid hl
   have HU := Lib.hid hx
   have e2 := eq_false c2
   clear h hl hx c c2 H HT
   go_wp2_with fail
   refine wp_region_L 9 (Hd _ w1 w1.heap.size) (by kernel_rfl) (⟨Nat.le_refl _, HC.out.keep (Below.refl _ _).drew, (Below.refl _ _).drew⟩) (fun hHeld => ?_)
   refine tl0.go ?_
   refine tl1.go ?_
   refine tl2.go ?_
   refine tl3.go ?_
   refine tl4.go ?_
   refine tl5.go ?_
   refine wpAnyL_ready (rs := [6]) (by kernel_rfl) (by simp) (al6 (fun K hK => ?_) (AllReadyL.nil))
   focus go_simp
   focus (refine (apart_any (Kd.C_below HR0.out hHeld.below) (Kd.C_below HR1.out hHeld.below) HA.out).mono ?_; rintro e w2 ⟨v2, rfl, hJ2, hb2⟩; have HJ2 := Lib.hid (hJ2.low hHeld.size); obtain ⟨A2, n2, k2, rfl⟩ := hJ2.sh; clear hJ2)
   focus try simp only []
   refine hK.out _ _ (fun _ => ?_) (fun hHeld => ?_)
   ·exact hHeld.keep hb2
   focus (have hHeld := hHeld (by decide); clear hK K; refine Zp3f ?_)
   refine tl7.go ?_
   refine wpAnyL_ready (rs := [8]) (by kernel_rfl) (by simp) (al8 (fun K hK => ?_) (AllReadyL.nil))
   focus go_simp
   focus (refine (cut_J HJ2.out HU.out).mono ?_; rintro e w2 ⟨m2, rfl, hJ3, hb2⟩; have HJ3 := Lib.hid hJ3; clear hJ3)
   focus try simp only []
   refine hK.out _ _ (fun _ => ?_) (fun hHeld => ?_)
   ·exact hHeld.keep hb2
   focus (have hHeld := hHeld (by decide); clear hK K; refine Zp3f ?_)
   refine wpAnyL_ready (rs := [9]) (by kernel_rfl) (by simp) (al9 (fun K hK => ?_) (AllReadyL.nil))
   focus (have HX2 := Box3.keep HX (hHeld.below.mono hB); obtain ⟨z0, z1, z2, z3, z4⟩ := HX2.out.r.cells; go_simp)
   refine hK.out _ _ (fun h => absurd rfl h) (fun _ => ?_)
   focus (clear hK K; refine Zp3f ?_)
   refine wpAnyL_done (by kernel_rfl) ?_ _; rotate_left 1
   obtain ⟨-, y0, y1⟩ := HX2.out.r.put (.bool x1) (.slice A2 m2 k2)
   go_wp2
   exact bodyPost_ret (v := .agg #[.bool x1, .slice A2 m2 k2]) Z3f0 rfl ⟨_, rfl, ((HJ3.out.far (by omega) _).far (by omega) _).low (by omega), (HX2.out.below.setCell (by simp; omega) _).setCell (by simp; omega) _⟩
 ·rw [if_neg c] at h
  have H := Lib.hid h
  have c0 : (d0 != d1) = false := by revert c; cases d0 <;> cases d1 <;> simp
  have c' : (!d0 == d1) = false := by revert c; cases d0 <;> cases d1 <;> simp
  clear h c
  go_enter Tryz.func73, Tryz.ntmps73
  go_wp2
  have HJ0 := Lib.hid (show RowJ ((((w.alloc (.cells #[.bool d0, .slice A0 l0.length m0] 91)).alloc (.cells #[.bool d1, .slice A1 l1.length m1] 91)).alloc (.cells #[.bool false, .slice none 0 0] 91)).alloc (.cells #[] 3)) (w.heap.size + 3) (.slice (some ⟨w.heap.size + 1 + 1 + 1, 0, none⟩) 0 0) [] from RowJ.nil (blk_newk (by simp) _) (by omega))
  have HX := Box3.keep HX ((Below.refl _ _).alloc (Box3.facts HX).2.2 (.cells #[] 3))
  go_loopg [5, 6, 7] k (fun kq v5 v6 v7 w' => ∃ (l : List Int) (c i : Int), v6 = .int .i64 c ∧ v7 = .int .i64 i ∧ Hid (ashlarref01_Plus.l0 kq l c i d0 l0 d1 l1 = some (r1, r2)) ∧ kq ≤ k ∧ Hid (RowJ w' (w.heap.size + 3) v5 l) ∧ Hid (Box3 w w' d0 d1 A0 A1 l0.length m0 l1.length m1))
  case atStart => exact ⟨[], 0, 0, rfl, rfl, H, Nat.le_refl _, HJ0, HX⟩
  case round =>
   clear HX HJ0 H c0 c'
   obtain ⟨l, c, i, rfl, rfl, H, hk, HJ, HX⟩ := hrel
   cases gk with
   | zero => have := H.out; simp [ashlarref01_Plus.l0] at this
   | succ k1 =>
    have h := H.out
    clear H
    simp only [ashlarref01_Plus.l0] at h
    obtain ⟨⟨p0, p1⟩, ⟨q0, q1⟩, hB⟩ := Box3.facts HX
    by_cases c1 : i ≤ mx (l0.length : Int) (l1.length : Int)
    ·rw [if_pos c1] at h
     have e1 := eq_true c1
     replace h := Option.bind_eq_some_iff.1 h
     obtain ⟨x, hx, h⟩ := h
     replace h := Option.bind_eq_some_iff.1 h
     obtain ⟨y, hy, h⟩ := h
     replace h := ite_some h
     obtain ⟨hl, h⟩ := h
     have HXa := Lib.hid hx
     have HYa := Lib.hid hy
     have HL := Lib.hid hl
     have H := Lib.hid h
     have HRa := Lib.hid (Kd.C_below HR0.out HX.out.below)
     have HRb := Lib.hid (Kd.C_below HR1.out HX.out.below)
     clear h hx hy hl c1
     go_wp2_with fail
     go_quiet ((go_at_call 111; first | with_reducible refine Calls.quiet_of_same (at_any (Kd.C_drewN HRa.out _) HXa.out) | with_reducible refine Calls.quiet_of_same (at_any (Kd.C_drewN HRb.out _) HYa.out)))
     have HX := Box3.keep HX (show Below (w.heap.size + 3) wr (wr.drewN nq) from pw_below_drewN ((Below.refl _ _).mono hB) _)
     have HJ := Lib.hid (HJ.out.below (pw_below_drewN (Below.refl _ _) nq))
     have hB := (Box3.facts HX).2.2
     generalize wr.drewN nq = W at HX HJ hB ⊢
     go_wp2_with (at_builtin; refine wpList_appJ rfl (.tmp 61) (.tmp 64) rfl (w.heap.size + 3) _ _ l rfl HJ.out rfl HL.out hB ?_; intro v1 w1 HJ1 HB1)
     go_roundg k1
     case measure => omega
     case rel => exact ⟨_, _, _, rfl, rfl, H, by omega, HJ1, Box3.keep HX HB1.out⟩
    ·rw [if_neg c1] at h
     have e1 := eq_false c1
     replace h := Option.bind_eq_some_iff.1 h
     obtain ⟨⟨x1, x2⟩, hx, h⟩ := h
     obtain ⟨rfl, rfl⟩ := Prod.mk.inj (Option.some.inj h)
     have H := Lib.hid hx
     obtain ⟨A2, n2, k2, rfl⟩ := HJ.out.sh
     clear h hx c1
     go_wp2_with fail
     refine (cut_J HJ.out H.out).mono ?_
     rintro e w2 ⟨m, rfl, hJ, hb⟩
     have HJ3 := Lib.hid hJ
     have HX2 := Box3.keep HX (hb.mono hB)
     clear hJ hb HJ H
     obtain ⟨z0, z1, z2, z3, z4⟩ := HX2.out.r.cells
     obtain ⟨-, y0, y1⟩ := HX2.out.r.put (.bool x1) (.slice A2 m k2)
     go_wp2
     exact bodyPost_ret (v := .agg #[.bool x1, .slice A2 m k2]) Z3f0 rfl ⟨_, rfl, ((HJ3.out.far (by omega) _).far (by omega) _).low (by omega), (HX2.out.below.setCell (by simp; omega) _).setCell (by simp; omega) _⟩
end Go.Proofs.YtbpjnkeilhfajaaGreat.Rf
end
