/- linear's weights. -/
import Derived.Test.YtbpjnkeilhfajaaGreatTl
import Derived.Test.YtbpjnkeilhfajaaGreatLnR
namespace Go.Proofs
theorem Zp25 {p q : Prop} (hq : q) (h : p = q := by first | (simp only [Act.put, List.setIfInBounds_toArray, List.set_cons_zero, List.set_cons_succ]; done) | (simp only [Act.put, List.setIfInBounds_toArray, List.set_cons_zero, List.set_cons_succ]; rfl) | rfl) : p := Eq.mpr h hq
theorem Z250 {p : Prop} (h : p := by kernel_rfl) : p := h
theorem Z251 {p : Prop} (h : p := by refine (must64b_no _ _).mono ?_; rintro e w2 ⟨rfl, hb2⟩; exact ⟨rfl, rfl, HBH.out.trans ((hHeld.keep hb2).below.mono HBH.out.size)⟩) : p := h
end Go.Proofs
namespace Go.Proofs.YtbpjnkeilhfajaaGreat.Ln
open Go.RowKit Go.Proofs.YtbpjnkeilhfajaaGreat.Num Go.Proofs.YtbpjnkeilhfajaaGreat.Given Go.Proofs.YtbpjnkeilhfajaaGreat.Lin Go.Proofs.YtbpjnkeilhfajaaGreatW.PrintWords
set_option linter.unusedVariables false
set_option linter.unusedSimpArgs false
theorem rl_keep {w w2 : World} {base : Nat} {v : Value} {l : List Rat} (h : Hid (RowQ w base v l)) (hb : Below w.heap.size w w2) : Hid (RowQ w2 base v l) := Lib.hid (h.out.below hb)
def intv (l : List Int) : List Value := l.map fun n : Int => Value.int .i64 n
def RowI (w : World) (base : Nat) (v : Value) (l : List Int) : Prop := w.ownsRow base 2 1 v l.length (intv l)
theorem step_app {P : Program} {ops : Array Oper} {o : Oper} {a : Act} {w : World} {K : Act → World → Prop} {Q : Exit → Act → World → Prop} {E : Prop} (hgd : o.guard = none) (s x : Operand) (t : TypeId)
  (ho : o.op = .call { callee := .builtin .append, args := #[s, x], argTypes := #[t, t] })
  (base : Nat) (e : TypeId) (z : Value) (size bytes : Nat) (ht : P.underlying t = some (.slice e)) (hi : (P.info? e).map (fun i => (i.zero, i.size, i.bytes)) = some (some z, size, bytes)) (hzs : z.cells.size = size) (hsz : 0 < size)
  (v : Value) (n : Nat) (xs : List Value) (hs : a.eval s = v) (hown : w.ownsRow base e size v n xs)
  (ad : Addr) (m c : Nat) (news : List Value) (hx : a.eval x = .slice (some ad) m c) (hl : news.length = m * size) (hnews : ∀ j u, news[j]? = some u → w.cell? (ad.add j) = some u) (h1 : ∀ u ∈ news, u.oneCell' = true)
  (h63 : n + m ≤ maxLen) (hbytes : (n + m) * bytes ≤ 140737488355328) (hbase : base ≤ w.heap.size)
  (h : ∀ v' w', Hid (w'.ownsRow base e size v' (n + m) (xs ++ news)) → w.grownBy w' v.ownBlock → K (a.put o.dst v') w') :
  if Region.wanted o (yielded ops a.tmps) = true then Oper.wp P o a w K Q else E := by
 have hw : Region.wanted o (yielded ops a.tmps) = true := by simp [Region.wanted, hgd]
 rw [if_pos hw]
 cases hq : P.info? e with
 | none => rw [hq] at hi; cases hi
 | some i =>
  rw [hq] at hi
  injection hi with hi
  injection hi with h2 h3
  injection h3 with h3 h4
  exact wp_append_own w s x t ho base e i z size bytes ht hq h2 h3 h4 hzs hsz v n xs hs hown ad m c news hx hl hnews h1 h63 hbytes hbase fun v' w' a1 a2 _ => h v' w' a1 a2
theorem rowQ_st {w : World} {base g n cap : Nat} {l : List Rat} (h : RowQ w base (.slice (some ⟨g, 0, none⟩) n cap) l) {i : Nat} (hi : i < l.length) :
  ∃ p q : Int, w.cell? ⟨g, i * 2, none⟩ = some (.int .i64 p) ∧ w.cell? ⟨g, i * 2 + 1, none⟩ = some (.int .i64 q) ∧ w.frozen? ⟨g, i * 2, none⟩ = false ∧ w.frozen? ⟨g, i * 2 + 1, none⟩ = false := by
 obtain ⟨a, b, c, d, _, _⟩ := rowQ_in h hi
 exact ⟨_, _, a, b, c, d⟩
theorem below_set2 {b g i k : Nat} {w w1 : World} {x y : Value} (h : Below b w w1) (hg : b ≤ g) : Below b w ((w1.setCell ⟨g, i, none⟩ x).setCell ⟨g, k, none⟩ y) := by
 refine Below.setCell ?_ hg _
 exact Below.setCell h hg _
theorem gcd_ok {a b : Int} {g : Nat} (ha : In64 a) (hb : In64 b) (hg : Int.gcd a b = g) (h : In64 (g : Int)) (w : World) :
  Calls Tryz.prog 99 #[.int .i64 a, .int .i64 b] w fun e w' => e = .returned (.tuple #[.int .i64 (g : Int), .bool true]) ∧ Below w.heap.size w w' := by
 have := Gcd_any a b w ha hb
 rwa [hg, show fitp (g : Int) = ((g : Int), true) from if_pos h] at this
theorem gcd_no {a b : Int} {g : Nat} (ha : In64 a) (hb : In64 b) (hg : Int.gcd a b = g) (h : ¬ In64 (g : Int)) (w : World) :
  Calls Tryz.prog 99 #[.int .i64 a, .int .i64 b] w fun e w' => e = .returned (.tuple #[.int .i64 0, .bool false]) ∧ Below w.heap.size w w' := by
 have := Gcd_any a b w ha hb
 rwa [hg, show fitp (g : Int) = (0, false) from if_neg h] at this
theorem quo_is {a b d : Int} (ha : 0 ≤ a) (hb : 0 < b) (h63 : a < 9223372036854775808) (hd : a / b = d) : wrap64 (a.tdiv b) = d := by
 rw [Int.tdiv_eq_ediv_of_nonneg ha, hd]
 have h1 : 0 ≤ d := by rw [← hd]; exact Int.ediv_nonneg ha (by omega)
 have h2 : d ≤ a := by rw [← hd]; exact Int.ediv_le_self _ ha
 unfold wrap64
 omega
theorem infoI : (Tryz.prog.info? 2).map (fun i => (i.zero, i.size, i.bytes)) = some (some (.int .i64 0), 1, 8) := by kernel_rfl
theorem RowI.at {w : World} {base : Nat} {v : Value} {l : List Int} (h : RowI w base v l) {k : Nat} (hk : l.length = k) : w.ownsRow base 2 1 v k (intv l) := by subst hk; exact h
theorem ri_lt {w : World} {base : Nat} {v : Value} {l : List Int} (h : RowI w base v l) : ∀ k, v.ownBlock = some k → k ≠ w.heap.size := by
 intro k hk
 obtain ⟨_, hv⟩ := h
 rcases hv with ⟨rfl, _⟩ | ⟨g, cap, cur, rfl, _, hb, _⟩
 ·cases hk
 ·cases hk
  exact Nat.ne_of_lt (blk_lt hb)
theorem ri_rl {w : World} {base b2 : Nat} {v : Value} {l : List Int} {g n c : Nat} {q : List Rat} (h : RowI w base v l) (hq : RowQ w b2 (.slice (some ⟨g, 0, none⟩) n c) q) : ((Value.slice (some ⟨g, 0, none⟩) n c).ownBlock = none ∨ (Value.slice (some ⟨g, 0, none⟩) n c).ownBlock ≠ v.ownBlock) ∧ v.ownBlock ≠ some g ∧ ∀ k, v.ownBlock = some k → base ≤ k := by
 have hne : v.ownBlock ≠ some g := by
  intro e
  obtain ⟨_, hv⟩ := h
  obtain ⟨_, hv2⟩ := hq
  rcases hv with ⟨rfl, _⟩ | ⟨g1, cap, cur, rfl, _, hb, _⟩
  ·cases e
  ·cases e
   rcases hv2 with ⟨e, _⟩ | ⟨g2, cap2, cur2, e, _, hb2, _⟩
   ·cases e
   ·injection e with e1 _ _
    injection e1 with e1
    injection e1 with e1
    subst e1
    exact blk_ne hb hb2 (by decide) rfl
 refine ⟨.inr (fun e => hne ?_), hne, fun k hk => ?_⟩
 ·rw [← e]; rfl
 ·obtain ⟨_, hv⟩ := h
  rcases hv with ⟨rfl, _⟩ | ⟨g1, cap, cur, rfl, hle, hb, _⟩
  ·cases hk
  ·cases hk
   exact hle
theorem Hd.grown {g : Nat} {x y : Value} {W w w1 : World} {base : Nat} {row : Option Nat} (h : Hd [(⟨g, 0, none⟩, x), (⟨g, 1, none⟩, y)] W base w) (hg : w.grownBy w1 row) (hne : ∀ k, row = some k → k ≠ g) (hb : ∀ k, row = some k → base ≤ k) : Hd [(⟨g, 0, none⟩, x), (⟨g, 1, none⟩, y)] W base w1 := by
 have hbl : w1.heap[g]? = w.heap[g]? := hg.block g (World.block_lt_of_cell? w _ h.cells.1) (fun e => hne g e.symm rfl)
 refine ⟨h.le, ⟨?_, ?_, trivial⟩, h.below.grown hg h.size hb⟩
 ·rw [World.cell?_of_block hbl]; exact h.cells.1
 ·rw [World.cell?_of_block hbl]; exact h.cells.2.1
theorem quo_both {a b d : Int} (ha : 0 ≤ a) (hb : 0 < b) (h63 : a < 9223372036854775808) (hd : a / b = d) : wrap64 (a.tdiv b) = d ∧ IntKind.i64.wrap (a.tdiv b) = d ∧ wrap64 (a / b) = d ∧ IntKind.i64.wrap (a / b) = d := by
 have h := quo_is ha hb h63 hd
 have h2 : IntKind.i64.wrap (a.tdiv b) = d := by
  rw [IntKind.wrap_i64]
  unfold wrap64 at h
  exact h
 rw [Int.tdiv_eq_ediv_of_nonneg ha] at *
 exact ⟨h, h2, h, h2⟩
theorem mul_one_le {a b : Int} (ha : 1 ≤ a) (hb : 1 ≤ b) : 1 ≤ a * b := by
 have := Int.mul_pos (show 0 < a by omega) (show 0 < b by omega)
 omega
theorem ri_keep {w w2 : World} {base : Nat} {v : Value} {l : List Int} (h : Hid (RowI w base v l)) (hb : Below w.heap.size w w2) : Hid (RowI w2 base v l) := Lib.hid (pw_own_below h.out hb)
def WtEnd (w' : World) (base : Nat) (o : Option (List Int)) (e : Ending) : Prop := match o with
 | some ws => ∃ v', e = .returned v' ∧ RowI w' base v' ws
 | none => e = .panicked LargeL
theorem wholez {z : Rat} (h : z = 0) (w : World) : Calls Tryz.prog 84 #[.int .i64 0] w fun e w' => e = .returned (rv z) ∧ Below w.heap.size w w' := by subst h; exact whole_q 0 w
theorem wholeo {z : Rat} (h : z = 1) (w : World) : Calls Tryz.prog 84 #[.int .i64 1] w fun e w' => e = .returned (rv z) ∧ Below w.heap.size w w' := by subst h; exact whole_q 1 w
theorem fit0 : Fit 0 := int_fit (n := 0) ⟨by decide, by decide⟩
theorem fit1 : Fit 1 := int_fit (n := 1) ⟨by decide, by decide⟩
set_option maxHeartbeats 16000000 in
set_option maxRecDepth 100000 in
theorem weights_any (w : World) (base tb vars i : Nat) (t : Tab) (vb vr vv vl : Value) (rs : List Value) (hT : TabAt w base tb vars t vb vr vv vl rs) (hW : WfT vars t) (hi : i < t.rows.length) (hbi : vars ≤ rdN t.basic i) :
  Calls Tryz.prog 57 #[.pointer (some ⟨tb, 0, none⟩), .int .i64 i] w fun e w' => WtEnd w' w.heap.size (weights vars t i) e ∧ Below w.heap.size w w' := by
 obtain ⟨r, hr⟩ : ∃ r, weights vars t i = r := ⟨_, rfl⟩
 rw [hr]
 obtain ⟨z, hz⟩ : ∃ z : Rat, z = 0 := ⟨_, rfl⟩
 obtain ⟨one, hone⟩ : ∃ z : Rat, z = 1 := ⟨_, rfl⟩
 have HZ := Lib.hid hz
 have HO := Lib.hid hone
 have hir : i < rs.length := by rw [hT.len]; exact hi
 have hib : i < t.basic.length := by have := hW.bl; have := hW.rl; omega
 have hRow := hT.row i hir
 obtain ⟨gR, cR, eR, _, _, q0, _, _⟩ := one_at hT.rows hir
 obtain ⟨gB, cB, eB, _, _, p0, _, _⟩ := rowN_rd hT.basic hib
 subst eR
 subst eB
 obtain ⟨rv0, hrv⟩ : ∃ rv0, rs[i] = rv0 := ⟨_, rfl⟩
 rw [hrv] at hRow q0
 obtain ⟨Ar, cr, er, _⟩ := row_open hRow
 have hcl := hW.cl i hi
 have hbas := hW.bas i hib
 obtain ⟨m, hm⟩ : ∃ m, t.limits.length = m := ⟨_, rfl⟩
 obtain ⟨bi, hbie⟩ : ∃ bi, rdN t.basic i = bi := ⟨_, rfl⟩
 have hfr := hW.fr i
 have hvl := hW.vl
 unfold weights at hr
 obtain ⟨row, hrow⟩ : ∃ row, rdR t.rows i = row := ⟨_, rfl⟩
 rw [hrow] at hRow hr hcl er hfr
 rw [hm] at hr hvl
 rw [hbie] at hr p0 hbi hbas
 obtain ⟨r0, hr0⟩ : ∃ r0, wrow vars row m 0 = r0 := ⟨_, rfl⟩
 rw [hr0] at hr
 have hN : row.length = vars + m := by rw [hcl, hvl]
 have hmax : row.length ≤ 4096 := by rw [hcl]; exact hW.max
 have hbm : bi - vars < m := by omega
 have hm1 : 1 ≤ m := by omega
 have hm2 : m ≤ 4096 := by omega
 obtain ⟨Al, cl, el, _⟩ := row_open hT.limits
 rw [hm] at el
 subst el
 subst er
 have HROW := Lib.hid hRow
 have HR := Lib.hid hr
 have HR0 := Lib.hid hr0
 have HFR := Lib.hid hfr
 have HN := Lib.hid hN
 have HMAX := Lib.hid hmax
 have HBM := Lib.hid hbm
 have ew := wrapsub hbi (show bi < 9223372036854775808 by omega)
 have ew2 : IntKind.i64.wrap ((bi : Int) - (vars : Int)) = ((bi - vars : Nat) : Int) := by rw [IntKind.wrap_i64]; unfold wrap64 at ew; exact ew
 have b0 : w.cell? ⟨tb, 0, none⟩ = some (.int .i64 vars) := blk_cell hT.box 0
 have b1 : w.cell? ⟨tb, 1, none⟩ = some (.slice (some ⟨gB, 0, none⟩) t.basic.length cB) := blk_cell hT.box 1
 have b2 : w.cell? ⟨tb, 2, none⟩ = some (.slice (some ⟨gR, 0, none⟩) rs.length cR) := blk_cell hT.box 2
 have b4 : w.cell? ⟨tb, 4, none⟩ = some (.slice Al m cl) := blk_cell hT.box 4
 have HC := Lib.hid (show Cells [(⟨tb, 4, none⟩, .slice Al m cl)] w from ⟨b4, trivial⟩)
 have HRep := Lib.hid (fun gx cx W x0 x1 => repeat_any m gx cx W hm1 hm2 x0 x1)
 have HWz := Lib.hid (fun W => wholez hz W)
 have HWo := Lib.hid (fun W => wholeo hone W)
 clear hT hW hr hN hrow hcl hfr hRow hrv hmax hbas hm hbie hvl hr0 hz hone b4 hm1 hbm hi
 go_enter Tryz.func57, Tryz.ntmps57
 go_wp2_with fail
 refine wp_region_L 8 (Hd _ w w.heap.size) Z250 (⟨Nat.le_refl _, HC.out.keep (Below.refl _ _).drew, (Below.refl _ _).drew⟩) (fun hHeld => ?_)
 refine tl2.go ?_
 refine tl3.go ?_
 refine tl4.go ?_
 refine tl5.go ?_
 refine tl6.go ?_
 refine al0.ret (whole_q 0 _) (fun w2 hb2 hHeld => ?_)
 refine wpAnyL_ready (rs := [1]) Z250 (by simp) (al1 (fun K hK => ?_) (AllReadyL.nil))
 focus go_simp
 refine hK.out _ _ (fun _ => ?_) (fun hHeld => ?_)
 ·exact hHeld.keep ((Below.refl _ _).alloc (Nat.le_refl _) _)
 focus (have hHeld := hHeld (by decide); clear hK K; refine Zp25 ?_)
 refine wpAnyL_ready (rs := [7]) Z250 (by simp) (al7 (fun K hK => ?_) (AllReadyL.nil))
 focus go_simp
 focus (have hLs := hHeld.size; refine (HRep.out _ _ _ ?_ ?_).mono ?_; simp [go_sem]; simp [go_sem]; rintro e w2 ⟨vL, rfl, hL, hb2⟩)
 focus try simp only []
 refine hK.out _ _ (fun _ => ?_) (fun hHeld => ?_)
 ·exact hHeld.keep hb2
 focus (have hHeld := hHeld (by decide); clear hK K; refine Zp25 ?_)
 refine wpAnyL_ready (rs := [8]) Z250 (by simp) (al8 (fun K hK => ?_) (AllReadyL.nil))
 focus go_simp
 refine hK.out _ _ (fun h => absurd rfl h) (fun _ => ?_)
 focus (clear hK K; refine Zp25 ?_)
 refine wpAnyL_done Z250 ?_ _; rotate_left 1
 have HL0 := Lib.hid (show RowQ w2 w.heap.size vL (List.replicate m 0) from own_less hL hLs)
 have HB0 := Lib.hid hHeld.below
 clear hL hLs hb2 hHeld
 obtain ⟨gL, cL, eL, hgL, _, _, _, _⟩ := rowQ_rd HL0.out (i := 0) (by rw [List.length_replicate]; have := HBM.out; omega)
 rw [List.length_replicate] at eL
 subst eL
 have k0 := kcell HB0.out b0
 have k2 := kcell HB0.out b2
 have kq := kcell HB0.out q0
 go_wp2
 go_loopw [30] (fun v30 wr => ∃ (j : Nat) (pre : List Rat), j ≤ row.length ∧ v30 = .int .i64 j ∧ pre.length = j - vars ∧ r0 = (wrow vars row (m - (j - vars)) (j - vars)).bind (fun l => some (pre ++ l)) ∧ (∀ x, x ∈ pre → Fit x) ∧ RowQ wr w.heap.size (.slice (some ⟨gL, 0, none⟩) m cL) (pre ++ List.replicate (m - (j - vars)) 0) ∧ Below w.heap.size w wr) (fun v30 _ => row.length - (intOf v30).toNat)
 case atStart => exact ⟨0, [], Nat.zero_le _, rfl, by simp, by rw [← HR0.out]; simp, (fun x hx => by cases hx), by simpa using HL0.out, HB0.out⟩
 case round =>
  obtain ⟨j, pre, hj, rfl, hpl, hW0, hpf, hL1, hbr⟩ := hrel
  by_cases hjl : j < row.length
  ·obtain ⟨gr, cr', er, _, _, z0, z1, _⟩ := rowQ_rd HROW.out hjl
   injection er with e1 _ e3
   subst e1
   subst e3
   have fc := HFR.out j
   have EW := Lib.hid (wrapj (show j + 1 < 9223372036854775808 by have := HMAX.out; omega))
   have HBR := Lib.hid hbr
   have z0' := kcell hbr z0
   have z1' := kcell hbr z1
   have c0 := kcell hbr b0
   have zt : tb < wr.heap.size := World.block_lt_of_cell? _ _ c0
   have zn : tb ≠ wr.heap.size := Nat.ne_of_lt zt
   obtain ⟨x, hx⟩ : ∃ x, rdQ row j = x := ⟨_, rfl⟩
   rw [hx] at z0' z1' fc
   have HX := Lib.hid hx
   have HPL := Lib.hid hpl
   have HPF := Lib.hid hpf
   have HW0 := Lib.hid hW0
   have HL1 := Lib.hid hL1
   clear hbr z0 z1 hx k0 k2 kq b0 b1 b2 p0 q0 hpl hpf hW0 hL1
   by_cases hv : vars ≤ j
   ·have eV : ((vars : Int) ≤ (j : Int)) = True := eq_true (by omega)
    have hk : j - vars < m := by have := HN.out; omega
    have ej := wrapsub hv (show j < 9223372036854775808 by have := HMAX.out; omega)
    have ej2 : IntKind.i64.wrap ((j : Int) - (vars : Int)) = ((j - vars : Nat) : Int) := by rw [IntKind.wrap_i64]; unfold wrap64 at ej; exact ej
    have hw := HW0.out
    rw [show m - (j - vars) = (m - (j - vars) - 1) + 1 by omega, wrow, show vars + (j - vars) = j by omega, HX.out, ← HZ.out] at hw
    by_cases hf : Fit (z - x)
    ·rw [okQ_fit hf, Option.bind_some] at hw
     have HW1 := Lib.hid hw
     have HM := Lib.hid (fun W => minus_ok (by rw [HZ.out]; exact fit0) fc hf W)
     clear hw fc
     go_wp2_with fail
     have HC0 := Lib.hid (show Cells [(⟨tb, 0, none⟩, .int .i64 vars), (⟨wr.heap.size, 0, none⟩, .int .i64 x.num), (⟨wr.heap.size, 1, none⟩, .int .i64 x.den)] (wr.alloc (.cells #[.int .i64 x.num, .int .i64 x.den] 28)) from ⟨kcell ((Below.refl _ _).alloc (Nat.le_refl _) _) c0, (new2 _ _ _ _).1, (new2 _ _ _ _).2, trivial⟩)
     have HL := rl_keep HL1 (((Below.refl _ _).alloc (Nat.le_refl _) (.cells #[.int .i64 x.num, .int .i64 x.den] 28)).drew)
     have hidx : j - vars < (pre ++ List.replicate (m - (j - vars)) (0 : Rat)).length := by rw [List.length_append, List.length_replicate, HPL.out]; omega
     have HIX := Lib.hid hidx
     clear hidx
     refine wp_region_L 14 (Hd _ w w.heap.size) Z250 (⟨Nat.le_refl _, HC0.out.keep (Below.refl _ _).drew, (HBR.out.alloc HBR.out.size _).drew⟩) (fun hHeld => ?_)
     refine tl0.go ?_
     refine tl1.go ?_
     refine tl2.go ?_
     refine tl3.go ?_
     refine tl4.go ?_
     refine tl5.go ?_
     refine tl6.go ?_
     refine tl8.go ?_
     refine al7.ret (HWz.out _) (fun w2 hb2 hHeld => ?_); (try have HL := rl_keep HL hb2)
     refine al9.ret (HM.out _) (fun w2 hb2 hHeld => ?_); (try have HL := rl_keep HL hb2)
     refine tl10.go ?_
     refine tl11.go ?_
     refine al12.ret (mustq_ok _ _) (fun w2 hb2 hHeld => ?_); (try have HL := rl_keep HL hb2)
     refine tl13.go ?_
     refine wpAnyL_ready (rs := [14]) Z250 (by simp) (al14 (fun K hK => ?_) (AllReadyL.nil))
     focus (obtain ⟨p_, q_, s0, s1, sf0, sf1⟩ := rowQ_st HL.out HIX.out; go_simp)
     refine hK.out _ _ (fun h => absurd rfl h) (fun _ => ?_)
     focus (clear hK K; refine Zp25 ?_)
     refine wpAnyL_done Z250 ?_ _; rotate_left 1
     have HL2 := Lib.hid (rowQ_set HL.out (j - vars) HIX.out (z - x))
     have HBH := Lib.hid hHeld.below
     go_wp2
     refine ⟨⟨j + 1, pre ++ [z - x], hjl, congrArg (Value.int .i64) EW.out, by rw [List.length_append, HPL.out, List.length_singleton]; omega, ?_, ?_, ?_, below_set2 HBH.out hgL⟩, ?_⟩
     ·rw [HW1.out, show j + 1 - vars = j - vars + 1 by omega, show m - (j - vars) - 1 = m - (j - vars + 1) by omega]
      cases wrow vars row (m - (j - vars + 1)) (j - vars + 1) <;> simp
     ·intro y hy
      rcases List.mem_append.1 hy with h | h
      ·exact HPF.out y h
      ·rw [List.mem_singleton.1 h]; exact hf
     ·have hset := HL2.out
      rw [show (pre ++ List.replicate (m - (j - vars)) (0 : Rat)).set (j - vars) (z - x) = (pre ++ [z - x]) ++ List.replicate (m - (j + 1 - vars)) 0 by
       rw [show m - (j - vars) = (m - (j + 1 - vars)) + 1 by omega, List.replicate_succ, ← HPL.out, List.set_append_right _ _ (Nat.le_refl _), Nat.sub_self, List.set_cons_zero, List.append_assoc]; rfl] at hset
      exact hset
     ·rw [EW.out]
      simp only [intOf, Int.toNat_natCast]
      exact meas_lt hjl
    ·rw [okQ, if_neg hf, Option.bind_none, Option.bind_none] at hw
     have HM := Lib.hid (fun W => minus_no (by rw [HZ.out]; exact fit0) fc hf W)
     obtain rfl : r = none := by have := HR.out; rw [hw] at this; exact this.symm
     clear hw fc
     go_wp2_with fail
     have HC0 := Lib.hid (show Cells [(⟨tb, 0, none⟩, .int .i64 vars), (⟨wr.heap.size, 0, none⟩, .int .i64 x.num), (⟨wr.heap.size, 1, none⟩, .int .i64 x.den)] (wr.alloc (.cells #[.int .i64 x.num, .int .i64 x.den] 28)) from ⟨kcell ((Below.refl _ _).alloc (Nat.le_refl _) _) c0, (new2 _ _ _ _).1, (new2 _ _ _ _).2, trivial⟩)
     refine wp_region_L 14 (Hd _ w w.heap.size) Z250 (⟨Nat.le_refl _, HC0.out.keep (Below.refl _ _).drew, (HBR.out.alloc HBR.out.size _).drew⟩) (fun hHeld => ?_)
     refine tl0.go ?_
     refine tl1.go ?_
     refine tl2.go ?_
     refine tl3.go ?_
     refine tl4.go ?_
     refine tl5.go ?_
     refine tl6.go ?_
     refine tl8.go ?_
     refine al7.ret (HWz.out _) (fun w2 hb2 hHeld => ?_); (try have HL := rl_keep HL hb2)
     refine al9.ret (HM.out _) (fun w2 hb2 hHeld => ?_); (try have HL := rl_keep HL hb2)
     refine tl10.go ?_
     refine tl11.go ?_
     refine wpAnyL_ready (rs := [12]) Z250 (by simp) (al12 (fun K hK => ?_) (AllReadyL.nil))
     focus go_simp
     ·refine (mustR_no _ _ _).mono ?_; rintro e w2 ⟨rfl, hb2⟩; exact ⟨rfl, rfl, (hHeld.keep hb2).below⟩
   ·have eV : ((vars : Int) ≤ (j : Int)) = False := eq_false (by omega)
    have hj0 : j - vars = 0 := by omega
    have hj1 : j + 1 - vars = 0 := by omega
    have HJ := Lib.hid (And.intro hj0 hj1)
    clear hj0 hj1
    go_wp2
    refine ⟨⟨j + 1, pre, hjl, congrArg (Value.int .i64) EW.out, by rw [HPL.out, HJ.out.1, HJ.out.2], by have h := HW0.out; rw [HJ.out.1] at h; rw [HJ.out.2]; exact h, HPF.out, by have h := HL1.out.below ((Below.refl _ _).alloc (Nat.le_refl _) (.cells #[.int .i64 x.num, .int .i64 x.den] 28)); rw [HJ.out.1] at h; rw [HJ.out.2]; exact h, HBR.out.alloc HBR.out.size _⟩, ?_⟩
    rw [EW.out]
    simp only [intOf, Int.toNat_natCast]
    exact meas_lt hjl
  ·have hjj : j = row.length := by omega
   subst hjj
   have hn := HN.out
   rw [show row.length - vars = m by omega, Nat.sub_self, wrow, Option.bind_some, List.append_nil] at hW0
   rw [show row.length - vars = m by omega, Nat.sub_self, List.replicate_zero, List.append_nil] at hL1
   rw [show row.length - vars = m by omega] at hpl
   subst hW0
   have HBR := Lib.hid hbr
   have HL1 := Lib.hid hL1
   have HPL := Lib.hid hpl
   have HPF := Lib.hid hpf
   have HRR := Lib.hid HR.out
   rw [Option.bind_some] at HRR
   have HC1 := Lib.hid (show Cells [(⟨tb, 0, none⟩, .int .i64 vars), (⟨tb, 1, none⟩, .slice (some ⟨gB, 0, none⟩) t.basic.length cB), (⟨gB, i, none⟩, .int .i64 (bi : Int))] wr from ⟨kcell hbr b0, kcell hbr b1, kcell hbr p0, trivial⟩)
   have HL := rl_keep HL1 ((Below.refl wr.heap.size wr).drew)
   have HIX := Lib.hid (show bi - vars < pre.length by rw [hpl]; exact HBM.out)
   have hbm := HBM.out
   clear hn hL1 hpl hbr hpf k0 k2 kq b0 b1 b2 p0 q0
   go_wp2_with fail
   refine wp_region_L 15 (Hd _ w w.heap.size) Z250 (⟨Nat.le_refl _, HC1.out.keep (Below.refl _ _).drew, HBR.out.drew⟩) (fun hHeld => ?_)
   refine tl0.go ?_
   refine tl1.go ?_
   refine tl2.go ?_
   refine tl3.go ?_
   refine tl4.go ?_
   refine tl5.go ?_
   refine tl6.go ?_
   refine tl7.go ?_
   refine tl8.go ?_
   refine tl9.go ?_
   refine tl10.go ?_
   refine tl11.go ?_
   refine tl12.go ?_
   refine al13.ret (HWo.out _) (fun w2 hb2 hHeld => ?_); (try have HL := rl_keep HL hb2)
   refine tl14.go ?_
   refine wpAnyL_ready (rs := [15]) Z250 (by simp) (al15 (fun K hK => ?_) (AllReadyL.nil))
   focus (obtain ⟨p_, q_, s0, s1, sf0, sf1⟩ := rowQ_st HL.out HIX.out; go_simp)
   refine hK.out _ _ (fun h => absurd rfl h) (fun _ => ?_)
   focus (clear hK K; refine Zp25 ?_)
   refine wpAnyL_done Z250 ?_ _; rotate_left 1
   have HL2 := Lib.hid (rowQ_set HL.out (bi - vars) HIX.out one)
   have HBH := Lib.hid (below_set2 (i := (bi - vars) * 2) (k := (bi - vars) * 2 + 1) (x := .int .i64 one.num) (y := .int .i64 one.den) hHeld.below hgL)
   generalize (w2.setCell ⟨gL, (bi - vars) * 2, none⟩ (.int .i64 one.num)).setCell ⟨gL, (bi - vars) * 2 + 1, none⟩ (.int .i64 one.den) = w3 at HL2 HBH ⊢
   rw [← HO.out] at HRR
   have HLF : Hid (∀ x, x ∈ pre.set (bi - vars) one → Fit x) := Lib.hid (fun x hx => by
    rcases List.mem_or_eq_of_mem_set hx with h | h
    ·exact HPF.out x h
    ·rw [h, HO.out]; exact fit1)
   have HLL := Lib.hid (show (pre.set (bi - vars) one).length = m by rw [List.length_set]; exact HPL.out)
   generalize pre.set (bi - vars) one = ll at HL2 HRR HLF HLL
   obtain ⟨rL, hrL⟩ : ∃ rL, leastF ll 1 = rL := ⟨_, rfl⟩
   rw [hrL] at HRR
   have HRL := Lib.hid hrL
   clear ew ew2 hrL hb2 hHeld s0 s1 sf0 sf1 HL HL1 HC1 HBR HR HR0 HIX hbm HPL HPF
   go_wp2
   go_loopw [73, 8] (fun v73 v8 wr => ∃ (j : Nat) (n : Int), j ≤ m ∧ v73 = .int .i64 j ∧ v8 = .int .i64 n ∧ In64 n ∧ 1 ≤ n ∧ leastF (ll.drop j) n = rL ∧ Below w3.heap.size w3 wr) (fun v73 _ _ => m - (intOf v73).toNat)
   case atStart => exact ⟨0, 1, Nat.zero_le _, rfl, rfl, ⟨by decide, by decide⟩, Int.le_refl 1, by rw [List.drop_zero]; exact HRL.out, Below.refl _ _⟩
   case round =>
    obtain ⟨j, n, hj, rfl, rfl, hn, hn1, hF, hbr⟩ := hrel
    by_cases hjl : j < m
    ·have hjl2 : j < ll.length := by rw [HLL.out]; exact hjl
     obtain ⟨s0, s1, -, -, -, -⟩ := rowQ_in (HL2.out.below hbr) hjl2
     have fx := HLF.out _ (List.getElem_mem hjl2)
     rw [List.drop_eq_getElem_cons hjl2, leastF] at hF
     rw [rdQ_get hjl2] at hF fx
     obtain ⟨x, hx⟩ : ∃ x, rdQ ll j = x := ⟨_, rfl⟩
     rw [hx] at s0 s1 fx hF
     have hxd : (0 : Int) < (x.den : Int) := by have := x.den_pos; omega
     have hxi : In64 (x.den : Int) := (fit64 fx).2
     have hxm : (x.den : Int) < 9223372036854775808 := hxi.2
     obtain ⟨g, hg⟩ : ∃ g, Int.gcd n (x.den : Int) = g := ⟨_, rfl⟩
     have hgp : 0 < g := by rw [← hg]; exact Int.gcd_pos_of_ne_zero_right _ (by omega)
     rw [hg] at hF
     obtain ⟨d, hd⟩ : ∃ d : Int, (x.den : Int) / (g : Int) = d := ⟨_, rfl⟩
     have EW := Lib.hid (wrapj (show j + 1 < 9223372036854775808 by omega))
     have hg0 : ((g : Int) = 0) = False := eq_false (by omega)
     have hg1 : (g = 0) = False := eq_false (by omega)
     have hd1 : 1 ≤ d := by
      rw [← hd]
      refine Int.le_ediv_of_mul_le (by omega) ?_
      have : (g : Int) ∣ (x.den : Int) := by rw [← hg]; exact Int.gcd_dvd_right _ _
      have := Int.le_of_dvd hxd this
      omega
     have hdm : d ≤ (x.den : Int) := by rw [← hd]; exact Int.ediv_le_self _ (by omega)
     have hdi : In64 d := ⟨by omega, by omega⟩
     have HQ := Lib.hid (quo_both (show (0 : Int) ≤ (x.den : Int) by omega) (show (0 : Int) < (g : Int) by omega) hxm hd)
     have HBR := Lib.hid hbr
     have HNN := Lib.hid (And.intro hn hn1)
     have HD := Lib.hid (And.intro hd1 hdi)
     have HDD := Lib.hid hd
     have HC3 := Lib.hid (show Cells [(⟨wr.heap.size, 1, none⟩, .int .i64 x.den)] (wr.alloc (.cells #[.int .i64 x.num, .int .i64 x.den] 28)) from ⟨(new2 _ _ _ _).2, trivial⟩)
     have HBA := Lib.hid (hbr.alloc hbr.size (.cells #[.int .i64 x.num, .int .i64 x.den] 28))
     have HG := Lib.hid (fun h1 W => gcd_ok hn hxi hg h1 W)
     have HG' := Lib.hid (fun h1 W => gcd_no hn hxi hg h1 W)
     clear hbr hx hd hn hn1 hxi hxm hxd hd1 hdm hdi hgp hg fx hjl2
     by_cases h1 : In64 (g : Int)
     ·rw [okI_is h1, Option.bind_some, HDD.out] at hF
      have HGC := Lib.hid (fun W => HG.out h1 W)
      by_cases h2 : In64 (n * d)
      ·rw [okI_is h2, Option.bind_some] at hF
       have HF := Lib.hid hF
       have HMU := Lib.hid (fun W => mul_ok HNN.out.1 HD.out.2 h2 W)
       clear hF h1
       obtain ⟨hqu, hqu2, hqu3, hqu4⟩ := HQ.out
       go_wp2_with fail
       refine wp_region_L 15 (Hd _ w3 w3.heap.size) Z250 (⟨Nat.le_refl _, HC3.out.keep (Below.refl _ _).drew, HBA.out.drew⟩) (fun hHeld => ?_)
       refine tl0.go ?_
       refine tl1.go ?_
       refine tl2.go ?_
       refine tl3.go ?_
       refine tl4.go ?_
       refine tl5.go ?_
       refine al6.ret (HGC.out _) (fun w2 hb2 hHeld => ?_); (try have HL := rl_keep HL hb2)
       refine tl7.go ?_
       refine tl8.go ?_
       refine al9.ret (must64b_ok _ _) (fun w2 hb2 hHeld => ?_); (try have HL := rl_keep HL hb2)
       refine tl10.go ?_
       refine al11.ret (HMU.out _) (fun w2 hb2 hHeld => ?_); (try have HL := rl_keep HL hb2)
       refine tl12.go ?_
       refine tl13.go ?_
       refine al14.ret (must64b_ok _ _) (fun w2 hb2 hHeld => ?_); (try have HL := rl_keep HL hb2)
       refine wpAnyL_ready (rs := [15]) Z250 (by simp) (al15 (fun K hK => ?_) (AllReadyL.nil))
       focus go_simp
       refine hK.out _ _ (fun h => absurd rfl h) (fun _ => ?_)
       focus (clear hK K; refine Zp25 ?_)
       refine wpAnyL_done Z250 ?_ _; rotate_left 1
       clear hqu hqu2 hqu3 hqu4
       go_wp2
       refine ⟨⟨j + 1, n * d, hjl, congrArg (Value.int .i64) (show ((j : Int) + 1) = ((j + 1 : Nat) : Int) by omega), rfl, h2, mul_one_le HNN.out.2 HD.out.1, HF.out, hHeld.below⟩, ?_⟩
       simp only [intOf]
       omega
      ·rw [okI_no h2, Option.bind_none] at hF
       have HMU := Lib.hid (fun W => mul_no HNN.out.1 HD.out.2 h2 W)
       obtain rfl : r = none := by have := HRR.out; rw [← hF] at this; exact this.symm
       clear hF h1 h2
       obtain ⟨hqu, hqu2, hqu3, hqu4⟩ := HQ.out
       go_wp2_with fail
       refine wp_region_L 15 (Hd _ w3 w3.heap.size) Z250 (⟨Nat.le_refl _, HC3.out.keep (Below.refl _ _).drew, HBA.out.drew⟩) (fun hHeld => ?_)
       refine tl0.go ?_
       refine tl1.go ?_
       refine tl2.go ?_
       refine tl3.go ?_
       refine tl4.go ?_
       refine tl5.go ?_
       refine al6.ret (HGC.out _) (fun w2 hb2 hHeld => ?_); (try have HL := rl_keep HL hb2)
       refine tl7.go ?_
       refine tl8.go ?_
       refine al9.ret (must64b_ok _ _) (fun w2 hb2 hHeld => ?_); (try have HL := rl_keep HL hb2)
       refine tl10.go ?_
       refine al11.ret (HMU.out _) (fun w2 hb2 hHeld => ?_); (try have HL := rl_keep HL hb2)
       refine tl12.go ?_
       refine tl13.go ?_
       refine wpAnyL_ready (rs := [14]) Z250 (by simp) (al14 (fun K hK => ?_) (AllReadyL.nil))
       focus go_simp
       ·exact Z251
     ·rw [okI_no h1, Option.bind_none] at hF
      have HGC := Lib.hid (fun W => HG'.out h1 W)
      obtain rfl : r = none := by have := HRR.out; rw [← hF] at this; exact this.symm
      clear hF h1
      obtain ⟨hqu, hqu2, hqu3, hqu4⟩ := HQ.out
      go_wp2_with fail
      refine wp_region_L 15 (Hd _ w3 w3.heap.size) Z250 (⟨Nat.le_refl _, HC3.out.keep (Below.refl _ _).drew, HBA.out.drew⟩) (fun hHeld => ?_)
      refine tl0.go ?_
      refine tl1.go ?_
      refine tl2.go ?_
      refine tl3.go ?_
      refine tl4.go ?_
      refine tl5.go ?_
      refine al6.ret (HGC.out _) (fun w2 hb2 hHeld => ?_); (try have HL := rl_keep HL hb2)
      refine tl7.go ?_
      refine tl8.go ?_
      refine wpAnyL_ready (rs := [9]) Z250 (by simp) (al9 (fun K hK => ?_) (AllReadyL.nil))
      focus go_simp
      ·exact Z251
    ·obtain rfl : j = m := by omega
     rw [List.drop_of_length_le (by rw [HLL.out]; exact Nat.le_refl _), leastF] at hF
     subst hF
     have HR3 := Lib.hid HRR.out
     rw [Option.bind_some] at HR3
     have HNN := Lib.hid (And.intro hn hn1)
     have HBR := Lib.hid (HBH.out.trans (hbr.mono HBH.out.size))
     have HLW := Lib.hid (HL2.out.below hbr)
     obtain ⟨r3, hr3⟩ : ∃ r3, wholeF n ll = r3 := ⟨_, rfl⟩
     rw [hr3] at HR3
     have HWF := Lib.hid hr3
     clear hr3 hbr hn hn1 HRL
     go_wp2
     go_loopw [95, 11] (fun v95 v11 wq => ∃ (k : Nat) (os : List Int), k ≤ j ∧ v95 = .int .i64 k ∧ os.length = k ∧ r3 = (wholeF n (ll.drop k)).bind (fun l => some (os ++ l)) ∧ RowI wq w.heap.size v11 os ∧ RowQ wq w.heap.size (.slice (some ⟨gL, 0, none⟩) j cL) ll ∧ Below w.heap.size w wq) (fun v95 _ _ => j - (intOf v95).toNat)
     case atStart => exact ⟨0, [], Nat.zero_le _, rfl, rfl, by rw [List.drop_zero, HWF.out]; cases r3 <;> rfl, ⟨rfl, .inl ⟨rfl, rfl⟩⟩, HLW.out, HBR.out⟩
     case round =>
      obtain ⟨k, os, hk, rfl, hos, hF, hI, hL, hbr⟩ := hrel
      by_cases hkl : k < j
      ·have hkl2 : k < ll.length := by rw [HLL.out]; exact hkl
       obtain ⟨s0, s1, -, -, -, -⟩ := rowQ_in hL hkl2
       have fx := HLF.out _ (List.getElem_mem hkl2)
       rw [List.drop_eq_getElem_cons hkl2, wholeF] at hF
       rw [rdQ_get hkl2] at hF fx
       obtain ⟨x, hx⟩ : ∃ x, rdQ ll k = x := ⟨_, rfl⟩
       rw [hx] at s0 s1 fx hF
       have hxd : (0 : Int) < (x.den : Int) := by have := x.den_pos; omega
       obtain ⟨d, hd⟩ : ∃ d : Int, n / (x.den : Int) = d := ⟨_, rfl⟩
       rw [hd] at hF
       have hn0 : 0 ≤ n := by have := HNN.out.2; omega
       have HQ := Lib.hid (quo_both hn0 hxd HNN.out.1.2 hd)
       have hdi : In64 d := by
        have h1 : 0 ≤ d := by rw [← hd]; exact Int.ediv_nonneg hn0 (by omega)
        have h2 : d ≤ n := by rw [← hd]; exact Int.ediv_le_self _ hn0
        have h3 := HNN.out.1.2
        exact ⟨by omega, by omega⟩
       have hx0 : ((x.den : Int) = 0) = False := eq_false (by omega)
       have hx1 : (x.den = 0) = False := eq_false (by omega)
       have EW := Lib.hid (wrapj (show k + 1 < 9223372036854775808 by omega))
       have HBR := Lib.hid hbr
       have HX := Lib.hid (And.intro (fit64 fx).1 hdi)
       have HC3 := Lib.hid (show Cells [(⟨wr.heap.size, 0, none⟩, .int .i64 x.num), (⟨wr.heap.size, 1, none⟩, .int .i64 x.den)] (wr.alloc (.cells #[.int .i64 x.num, .int .i64 x.den] 28)) from ⟨(new2 _ _ _ _).1, (new2 _ _ _ _).2, trivial⟩)
       have HBA := Lib.hid (hbr.alloc hbr.size (.cells #[.int .i64 x.num, .int .i64 x.den] 28))
       have HNE := Lib.hid (ri_lt hI)
       have HUN := Lib.hid (ri_rl hI hL)
       have HI := ri_keep (Lib.hid hI) (((Below.refl _ _).alloc (Nat.le_refl _) (.cells #[.int .i64 x.num, .int .i64 x.den] 28)).drew)
       have HL := rl_keep (Lib.hid hL) (((Below.refl _ _).alloc (Nat.le_refl _) (.cells #[.int .i64 x.num, .int .i64 x.den] 28)).drew)
       have HOS := Lib.hid hos
       clear hbr hx hd hxd hdi fx hkl2 hI hL hn0 hos
       by_cases h2 : In64 (x.num * d)
       ·rw [okI_is h2, Option.bind_some] at hF
        have HF := Lib.hid hF
        have HMU := Lib.hid (fun W => mul_ok HX.out.1 HX.out.2 h2 W)
        obtain ⟨hqu, hqu2, hqu3, hqu4⟩ := HQ.out
        have H2 := Lib.hid h2
        clear hF h2
        go_wp2_with fail
        refine wp_region_L 13 (Hd _ w w.heap.size) Z250 (⟨Nat.le_refl _, HC3.out.keep (Below.refl _ _).drew, HBA.out.drew⟩) (fun hHeld => ?_)
        refine tl0.go ?_
        refine tl1.go ?_
        refine tl2.go ?_
        refine tl3.go ?_
        refine tl4.go ?_
        refine tl5.go ?_
        refine tl6.go ?_
        refine al7.ret (HMU.out _) (fun w2 hb2 hHeld => ?_); (try have HL := rl_keep HL hb2); (try have HI := ri_keep HI hb2)
        refine tl8.go ?_
        refine tl9.go ?_
        refine al10.ret (must64b_ok _ _) (fun w2 hb2 hHeld => ?_); (try have HL := rl_keep HL hb2); (try have HI := ri_keep HI hb2)
        refine wpAnyL_ready (rs := [11]) Z250 (by simp) (al11 (fun K hK => ?_) (AllReadyL.nil))
        focus go_simp
        refine hK.out _ _ (fun _ => ?_) (fun hHeld => ?_)
        ·exact hHeld.keep ((Below.refl _ _).alloc (Nat.le_refl _) _)
        focus (have hHeld := hHeld (by decide); clear hK K; refine Zp25 ?_)
        refine wpAnyL_ready (rs := [12]) Z250 (by simp) (al12 (fun K hK => ?_) (AllReadyL.nil))
        focus (refine step_app rfl (.tmp 99) (.tmp 110) _ rfl w.heap.size 2 (.int .i64 0) 1 8 Tryz.underlying23 infoI rfl (by decide) _ k (intv os) rfl (RowI.at (ri_keep HI ((Below.refl _ _).alloc (Nat.le_refl _) _)).out HOS.out) _ 1 _ [.int .i64 (x.num * d)] rfl rfl ?_ ?_ ?_ ?_ ?_ ?_; rotate_left 5; intro v_ w3_ ha hg)
        refine hK.out _ _ (fun _ => ?_) (fun hHeld => ?_)
        ·(refine hHeld.grown hg HNE.out ?_; exact HUN.out.2.2)
        focus (have hHeld := hHeld (by decide); clear hK K; refine Zp25 ?_)
        refine wpAnyL_ready (rs := [13]) Z250 (by simp) (al13 (fun K hK => ?_) (AllReadyL.nil))
        focus go_simp
        refine hK.out _ _ (fun h => absurd rfl h) (fun _ => ?_)
        focus (clear hK K; refine Zp25 ?_)
        refine wpAnyL_done Z250 ?_ _; rotate_left 1
        ·intro i_ u_ hu_
         match i_, hu_ with
         | 0, hu_ => cases hu_; rw [add_z]; exact blk_cell (blk_new _ _) 0
         | i_ + 1, hu_ => cases hu_
        ·intro u_ hu_
         rw [List.mem_singleton.1 hu_]; rfl
        ·unfold maxLen; omega
        ·omega
        ·exact hHeld.size
        have hA : RowI w3_ w.heap.size v_ (os ++ [x.num * d]) := by
         unfold RowI
         rw [List.length_append, HOS.out, List.length_singleton]
         have := ha.out
         simpa [intv] using this
        have HA := Lib.hid hA
        have HL3 := Lib.hid (own_other (HL.out.below ((Below.refl _ _).alloc (Nat.le_refl _) (.cells #[.int .i64 (x.num * d)] 2))) hg HUN.out.1)
        have HBF := Lib.hid hHeld.below
        clear hqu hqu2 hqu3 hqu4 hA ha hg
        go_wp2
        refine ⟨⟨k + 1, os ++ [x.num * d], hkl, congrArg (Value.int .i64) (show ((k : Int) + 1) = ((k + 1 : Nat) : Int) by omega), by rw [List.length_append, HOS.out]; rfl, ?_, HA.out, HL3.out, HBF.out⟩, ?_⟩
        ·rw [HF.out]
         cases wholeF n (ll.drop (k + 1)) <;> simp
        ·simp only [intOf]
         omega
       ·rw [okI_no h2, Option.bind_none, Option.bind_none] at hF
        have HMU := Lib.hid (fun W => mul_no HX.out.1 HX.out.2 h2 W)
        obtain ⟨hqu, hqu2, hqu3, hqu4⟩ := HQ.out
        obtain rfl : r = none := by rw [← HR3.out, hF]
        clear hF h2
        go_wp2_with fail
        refine wp_region_L 13 (Hd _ w w.heap.size) Z250 (⟨Nat.le_refl _, HC3.out.keep (Below.refl _ _).drew, HBA.out.drew⟩) (fun hHeld => ?_)
        refine tl0.go ?_
        refine tl1.go ?_
        refine tl2.go ?_
        refine tl3.go ?_
        refine tl4.go ?_
        refine tl5.go ?_
        refine tl6.go ?_
        refine al7.ret (HMU.out _) (fun w2 hb2 hHeld => ?_); (try have HL := rl_keep HL hb2); (try have HI := ri_keep HI hb2)
        refine tl8.go ?_
        refine tl9.go ?_
        refine wpAnyL_ready (rs := [10]) Z250 (by simp) (al10 (fun K hK => ?_) (AllReadyL.nil))
        focus go_simp
        ·refine (must64b_no _ _).mono ?_; rintro e w2 ⟨rfl, hb2⟩; exact ⟨rfl, rfl, (hHeld.keep hb2).below⟩
      ·obtain rfl : k = j := by omega
       rw [List.drop_of_length_le (by rw [HLL.out]; exact Nat.le_refl _), wholeF, Option.bind_some, List.append_nil] at hF
       have HF := Lib.hid hF
       have HI := Lib.hid hI
       have HBR := Lib.hid hbr
       clear hF hI hL hbr hos
       go_wp2
       go_ret
       refine ⟨?_, HBR.out⟩
       rw [← HR3.out, HF.out]
       exact ⟨_, rfl, HI.out⟩
end Go.Proofs.YtbpjnkeilhfajaaGreat.Ln
