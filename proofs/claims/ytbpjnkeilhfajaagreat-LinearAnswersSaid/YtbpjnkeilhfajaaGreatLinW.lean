import Derived.Test.YtbpjnkeilhfajaaGreatLinQ
import Derived.Test.YtbpjnkeilhfajaaGreatTl
import Derived.Test.YtbpjnkeilhfajaaGreatLnJ
import Derived.Test.YtbpjnkeilhfajaaGreatRfG
section
/- Plain: weights that show it show it also twice as large, and with a row more of weight 0. -/
namespace Go.Proofs.YtbpjnkeilhfajaaGreat.Lin
open Go.RowKit Go.Proofs.YtbpjnkeilhfajaaGreat.Given Go.Proofs.YtbpjnkeilhfajaaGreat.Num Go.Proofs.YtbpjnkeilhfajaaGreat.Sim
set_option linter.unusedVariables false
def dotZ : List Int → List Int → Int
 | w :: ws, c :: cs => w * c + dotZ ws cs
 | _, _ => 0
theorem dot_nil (cs : List Int) : dotZ [] cs = 0 := by cases cs <;> rfl
theorem dot_nil' (ws : List Int) : dotZ ws [] = 0 := by cases ws <;> rfl
theorem weigh_nil (cs : List Int) (s : Int) : weighF [] cs s = some s := by cases cs <;> rfl
theorem weigh_nil' (ws : List Int) (s : Int) : weighF ws [] s = some s := by cases ws <;> rfl
theorem mul_bound {w c : Int} {B C : Nat} (hw : w.natAbs ≤ B) (hc : c.natAbs ≤ C) : (w * c).natAbs ≤ B * C := by
 rw [Int.natAbs_mul]; exact Nat.mul_le_mul hw hc
theorem weighF_fits {B C : Nat} : ∀ {ws cs : List Int} {s : Int} {S : Nat}, (∀ w, w ∈ ws → w.natAbs ≤ B) → (∀ c, c ∈ cs → c.natAbs ≤ C) → s.natAbs ≤ S → S + ws.length * (B * C) < 9000000000000000000 → weighF ws cs s = some (s + dotZ ws cs)
 | w :: ws, c :: cs, s, S, hw, hc, hs, hB => by
  have h1 := mul_bound (hw w (List.mem_cons_self ..)) (hc c (List.mem_cons_self ..))
  rw [List.length_cons, Nat.add_mul, Nat.one_mul] at hB
  have hD : ∃ D, D = B * C := ⟨_, rfl⟩
  obtain ⟨D, hD⟩ := hD
  rw [← hD] at h1 hB
  have hE : ∃ E, E = ws.length * D := ⟨_, rfl⟩
  obtain ⟨E, hE⟩ := hE
  have hP : ∃ P, P = w * c := ⟨_, rfl⟩
  obtain ⟨P, hP⟩ := hP
  rw [weighF, dotZ, ← hP]
  rw [← hP] at h1
  rw [← hE] at hB
  have e1 : okI P = some P := if_pos (by unfold In64; omega)
  have e2 : okI (s + P) = some (s + P) := if_pos (by unfold In64; omega)
  rw [e1, Option.bind_some, e2, Option.bind_some, weighF_fits (S := S + D) (fun w hw' => hw w (List.mem_cons_of_mem _ hw')) (fun c hc' => hc c (List.mem_cons_of_mem _ hc')) (by omega) (by rw [← hD, ← hE]; omega)]
  congr 1; omega
 | [], cs, s, S, hw, hc, hs, hB => by
  rw [dot_nil, Int.add_zero, weigh_nil]
 | w :: ws, [], s, S, hw, hc, hs, hB => by
  rw [dot_nil', Int.add_zero, weigh_nil']
end Go.Proofs.YtbpjnkeilhfajaaGreat.Lin
end

section
/- linear's room. -/
namespace Go.Proofs.YtbpjnkeilhfajaaGreat.Ln
open Go.RowKit Go.Proofs.YtbpjnkeilhfajaaGreat.Num Go.Proofs.YtbpjnkeilhfajaaGreat.Given Go.Proofs.YtbpjnkeilhfajaaGreat.Lin Go.Proofs.YtbpjnkeilhfajaaGreatW.PrintWords
set_option linter.unusedVariables false
set_option linter.unusedSimpArgs false
def RatEnd (o : Option Rat) (e : Ending) : Prop := match o with
 | some x => e = .returned (rv x)
 | none => e = .panicked LargeL
set_option maxHeartbeats 8000000 in
set_option maxRecDepth 100000 in
theorem room_any (w : World) (base tb vars v : Nat) (t : Tab) (vb vr vv vl : Value) (rs : List Value) (hT : TabAt w base tb vars t vb vr vv vl rs) (hW : WfT vars t) (h0 : vars ≤ v) (h1 : v < t.value.length) :
  Calls Tryz.prog 100 #[.pointer (some ⟨tb, 0, none⟩), .int .i64 v] w fun e w' => RatEnd (okQ (rdQ t.limits (v - vars) - rdQ t.value v)) e ∧ Below w.heap.size w w' := by
 have h2 : v - vars < t.limits.length := by have := hW.vl; omega
 have hm := hW.max
 obtain ⟨g1, c1, rfl, _, _, x0, x1, _⟩ := rowQ_rd hT.value h1
 obtain ⟨g2, c2, rfl, _, _, y0, y1, _⟩ := rowQ_rd hT.limits h2
 have b0 : w.cell? ⟨tb, 0, none⟩ = some (.int .i64 vars) := blk_cell hT.box 0
 have b3 : w.cell? ⟨tb, 3, none⟩ = some (.slice (some ⟨g1, 0, none⟩) t.value.length c1) := blk_cell hT.box 3
 have b4 : w.cell? ⟨tb, 4, none⟩ = some (.slice (some ⟨g2, 0, none⟩) t.limits.length c2) := blk_cell hT.box 4
 have fx := hW.fv v
 have fy := hW.fl (v - vars)
 generalize rdQ t.value v = x at *
 generalize rdQ t.limits (v - vars) = y at *
 have ew := wrapsub h0 (show v < 9223372036854775808 by omega)
 have ew2 : IntKind.i64.wrap ((v : Int) - (vars : Int)) = ((v - vars : Nat) : Int) := by rw [IntKind.wrap_i64]; unfold wrap64 at ew; exact ew
 have HC := Lib.hid (show Cells [(⟨tb, 0, none⟩, .int .i64 vars), (⟨tb, 3, none⟩, .slice (some ⟨g1, 0, none⟩) t.value.length c1), (⟨tb, 4, none⟩, .slice (some ⟨g2, 0, none⟩) t.limits.length c2), (⟨g1, v * 2, none⟩, .int .i64 x.num), (⟨g1, v * 2 + 1, none⟩, .int .i64 x.den), (⟨g2, (v - vars) * 2, none⟩, .int .i64 y.num), (⟨g2, (v - vars) * 2 + 1, none⟩, .int .i64 y.den)] w from ⟨b0, b3, b4, x0, x1, y0, y1, trivial⟩)
 clear hT hW b0 b3 b4 x0 x1 y0 y1 hm h0
 by_cases hf : Fit (y - x)
 ·rw [okQ_fit hf]
  go_enter Tryz.func100, Tryz.ntmps100
  go_wp2_with fail
  have hb0 : Below w.heap.size w (w.alloc (.cells #[.int .i64 0, .int .i64 0] 28)).drew := ((Below.refl _ _).alloc (Nat.le_refl _) _).drew
  have HP := Lib.hid (⟨blk_new w _, by simp⟩ : (w.alloc (.cells #[.int .i64 0, .int .i64 0] 28)).drew.heap[w.heap.size]? = some (.cells #[.int .i64 0, .int .i64 0] 28 (0, 0)) ∧ w.heap.size < (w.alloc (.cells #[.int .i64 0, .int .i64 0] 28)).drew.heap.size)
  refine wp_region_L 23 (Hd _ w w.heap.size) (by kernel_rfl) (⟨Nat.le_refl _, HC.out.keep hb0, hb0⟩) (fun hHeld => ?_)
  refine tl0.go ?_
  refine tl1.go ?_
  refine tl2.go ?_
  refine tl3.go ?_
  refine tl4.go ?_
  refine tl5.go ?_
  refine tl6.go ?_
  refine tl7.go ?_
  refine tl8.go ?_
  refine tl9.go ?_
  refine tl10.go ?_
  refine tl11.go ?_
  refine tl12.go ?_
  refine tl13.go ?_
  refine tl14.go ?_
  refine tl15.go ?_
  refine tl16.go ?_
  refine tl17.go ?_
  refine tl18.go ?_
  refine al19.ret (minus_ok fy fx hf _) (fun w2 hb2 hHeld => ?_); (try have HP := hp_keep HP hb2)
  refine tl20.go ?_
  refine tl21.go ?_
  refine al22.ret (mustq_ok _ _) (fun w2 hb2 hHeld => ?_); (try have HP := hp_keep HP hb2)
  refine wpAnyL_ready (rs := [23]) (by kernel_rfl) (by simp) (al23 (fun K hK => ?_) (AllReadyL.nil))
  focus (obtain ⟨s0, s1, sf0, sf1⟩ := box2 HP; go_simp)
  refine hK.out _ _ (fun h => absurd rfl h) (fun _ => ?_)
  focus (clear hK K; try simp only [Act.put, List.setIfInBounds_toArray, List.set_cons_zero, List.set_cons_succ])
  refine wpAnyL_done (by kernel_rfl) ?_ _; rotate_left 1
  go_wp2
  obtain ⟨s0, s1, sf0, sf1⟩ := box2 HP
  simp [bodyPost, results, Tryz.results100, go_sem, s0, s1, sf0, sf1]
  exact ⟨rfl, (hHeld.below.setCell (Nat.le_refl _) _).setCell (Nat.le_refl _) _⟩
 ·rw [okQ, if_neg hf]
  go_enter Tryz.func100, Tryz.ntmps100
  go_wp2_with fail
  have hb0 : Below w.heap.size w (w.alloc (.cells #[.int .i64 0, .int .i64 0] 28)).drew := ((Below.refl _ _).alloc (Nat.le_refl _) _).drew
  refine wp_region_L 23 (Hd _ w w.heap.size) (by kernel_rfl) (⟨Nat.le_refl _, HC.out.keep hb0, hb0⟩) (fun hHeld => ?_)
  refine tl0.go ?_
  refine tl1.go ?_
  refine tl2.go ?_
  refine tl3.go ?_
  refine tl4.go ?_
  refine tl5.go ?_
  refine tl6.go ?_
  refine tl7.go ?_
  refine tl8.go ?_
  refine tl9.go ?_
  refine tl10.go ?_
  refine tl11.go ?_
  refine tl12.go ?_
  refine tl13.go ?_
  refine tl14.go ?_
  refine tl15.go ?_
  refine tl16.go ?_
  refine tl17.go ?_
  refine tl18.go ?_
  refine al19.ret (minus_no fy fx hf _) (fun w2 hb2 hHeld => ?_); (try have HP := hp_keep HP hb2)
  refine tl20.go ?_
  refine tl21.go ?_
  refine wpAnyL_ready (rs := [22]) (by kernel_rfl) (by simp) (al22 (fun K hK => ?_) (AllReadyL.nil))
  focus go_simp
  ·refine (mustR_no _ _ _).mono ?_; rintro e w2 ⟨rfl, hb2⟩; exact ⟨rfl, rfl, (hHeld.keep hb2).below⟩
end Go.Proofs.YtbpjnkeilhfajaaGreat.Ln
end

section
/- Plain: whole.Check; what whole.Solve answers of rows in a small box. -/
namespace Go.Proofs.YtbpjnkeilhfajaaGreat.Lin
open Go.RowKit Go.Proofs.YtbpjnkeilhfajaaGreat.Given Go.Proofs.YtbpjnkeilhfajaaGreat.Num Go.Proofs.YtbpjnkeilhfajaaGreat.Sim
set_option linter.unusedVariables false
def holdW (r : RowZ) (p : List Int) : Bool := match weighF r.1 p r.2 with
 | some s => decide (s ≤ 0)
 | none => false
def chkW (rows : List RowZ) (p : List Int) : Bool := rows.all fun r => decide (r.1.length = p.length) && holdW r p
theorem empty_len {v f : Int} (h : (solve [] v f).1 = 1) : (solve [] v f).2.1.length = v.toNat := by
 unfold solve at h ⊢
 by_cases hm : mayQ [] v = true
 ·have h1 : (made [] v.toNat).bind (loop v.toNat f.toNat) = some (1, List.replicate v.toNat 0, []) := by
   simp only [made, limF, Option.bind_some, List.length_nil, List.range_zero, List.map_nil, Nat.add_zero]
   unfold loop
   have hw : wrong v.toNat (⟨[], [], List.replicate v.toNat 0, []⟩ : Tab) = none := rfl
   rw [hw]
   simp
  rw [if_pos hm, h1] at h ⊢
  dsimp only at h ⊢
  split at h
  ·cases h
  ·rename_i hc
   rw [if_neg hc]; simp
 ·rw [if_neg hm] at h; cases h
theorem srch_len (vars : Int) : ∀ (d f : Nat) (rows : List RowZ), (srch vars d f rows).1 = 1 → (srch vars d f rows).2.2.length = vars.toNat
 | 0, f, rows, h => by cases h
 | d + 1, 0, rows, h => by cases h
 | d + 1, f + 1, rows, h => by
  by_cases hne : rows = []
  ·subst hne
   rcases srch_step vars d f [] rfl with ⟨h1, e⟩ | ⟨h1, hfr, e⟩ | ⟨i, a, b, h1, hfr, ha, hb, e⟩
   ·rw [e] at h; exact (h1 h).elim
   ·rw [e]; show (List.map _ _).length = _; rw [List.length_map, empty_len h1]
   ·obtain ⟨hi, hd⟩ := frac_some hfr
    refine (hd (solve_empty vars 10000 _ ?_)).elim
    have e : rdQ (solve [] vars 10000).2.1 i = (solve [] vars 10000).2.1[i] := by unfold rdQ; simp [List.getElem?_eq_getElem hi]
    rw [e]; exact List.getElem_mem hi
  ·exact (srch_yes vars (d + 1) (f + 1) rows h).1 hne
theorem chk_true {rows : List RowZ} {vars : Nat} {p : List Int} (h3 : vars ≤ 3) (hl : p.length = vars) (hlen : ∀ r, r ∈ rows → r.1.length = vars) (hc : ∀ r, r ∈ rows → ∀ c, c ∈ r.1 → c.natAbs ≤ 9) (hk : ∀ r, r ∈ rows → r.2.natAbs ≤ 9) (hp : ∀ x, x ∈ p → x.natAbs ≤ 9) :
  chkW rows p = true ↔ Pt rows vars (fun k => ((p.getD k 0 : Int) : Rat)) := by
 have key : ∀ r, r ∈ rows → ((decide (r.1.length = p.length) && holdW r p) = true ↔ Pt [r] vars (fun k => ((p.getD k 0 : Int) : Rat))) := fun r hr => by
  have hf := weighF_fits (ws := r.1) (cs := p) (s := r.2) (S := 9) (hc r hr) hp (hk r hr) (by rw [hlen r hr]; omega)
  have hs := weighF_some (by rw [hlen r hr, hl]) hf
  rw [pt_one]
  unfold holdW
  rw [hf]
  dsimp only
  rw [hlen r hr, hl, decide_eq_true rfl, Bool.true_and, decide_eq_true_eq]
  rw [hlen r hr] at hs
  have e : ((r.2 + dotZ r.1 p ≤ 0) : Prop) ↔ (((r.2 + dotZ r.1 p : Int) : Rat) ≤ 0) := by
   have := @Rat.intCast_le_intCast (r.2 + dotZ r.1 p) 0
   exact this.symm
  rw [e, hs, Rat.add_comm]
 unfold chkW
 rw [List.all_eq_true]
 constructor
 ·intro h j hj
  have hr := List.getElem_mem hj
  have h1 := (key _ hr).1 (h _ hr) 0 (Nat.zero_lt_one)
  unfold cz kz at h1 ⊢
  rw [row_get hj]
  exact h1
 ·intro h r hr
  obtain ⟨j, hj, rfl⟩ := List.getElem_of_mem hr
  refine (key _ hr).2 ?_
  intro i hi
  obtain rfl : i = 0 := by simpa using hi
  have h1 := h j hj
  unfold cz kz at h1 ⊢
  rw [row_get hj] at h1
  exact h1
theorem Boxed.int {rows : List RowZ} {vars : Nat} {lo hi : Nat → Int} (h : Boxed rows vars lo hi) {p : Nat → Int} (hp : Pt rows vars (fun k => (p k : Rat))) {k : Nat} (hk : k < vars) : lo k ≤ p k ∧ p k ≤ hi k := by
 have := h.keep _ hp k hk
 exact ⟨Rat.intCast_le_intCast.1 this.1, Rat.intCast_le_intCast.1 this.2⟩
theorem mem_getD {p : List Int} {x : Int} (h : x ∈ p) : ∃ k, k < p.length ∧ p.getD k 0 = x := by
 obtain ⟨k, hk, rfl⟩ := List.getElem_of_mem h
 exact ⟨k, hk, by simp [List.getElem?_eq_getElem hk]⟩
theorem wsolve_box {rows : List RowZ} {vars : Nat} {lo hi : Nat → Int} (h3 : vars ≤ 3) (hb : Boxed rows vars lo hi) {fuel : Nat} (hf : 2 * vol lo hi vars - 1 ≤ (fuel : Int)) :
  (∃ p, wsolve rows vars fuel (chkW rows) = (1, p) ∧ p.length = vars ∧ chkW rows p = true ∧ Pt rows vars (fun k => ((p.getD k 0 : Int) : Rat))) ∨ (wsolve rows vars fuel (chkW rows) = (2, []) ∧ ∀ p : Nat → Int, ¬ Pt rows vars (fun k => (p k : Rat))) := by
 have hk := knows h3 fuel fuel rows lo hi (Nat.le_refl _) hb hf
 unfold wsolve
 rw [Int.toNat_natCast]
 rcases hk.1 with h1 | h2
 ·have hl := srch_len (vars : Int) fuel fuel rows h1
  have hp := (srch_yes (vars : Int) fuel fuel rows h1).2
  rw [Int.toNat_natCast] at hl hp
  have hc : chkW rows (srch vars fuel fuel rows).2.2 = true := (chk_true h3 hl hb.len hb.c9 hb.k9 (fun x hx => by
   obtain ⟨k, hk, rfl⟩ := mem_getD hx
   have h4 := hb.int hp (k := k) (by omega)
   have h5 := hb.lo9 k (by omega)
   omega)).2 hp
  rw [if_pos h1, if_pos hc]
  exact .inl ⟨_, rfl, hl, hc, hp⟩
 ·rw [if_neg (by omega), h2]
  have := srch_no (vars : Int) fuel fuel rows h2
  rw [Int.toNat_natCast] at this
  exact .inr ⟨rfl, this⟩
end Go.Proofs.YtbpjnkeilhfajaaGreat.Lin
end

section
/- Plain: boxes; the laws WholeTimes, WholePoint, WholeMore of whole.Solve. -/
namespace Go.Proofs.YtbpjnkeilhfajaaGreat.Lin
open Go.RowKit Go.Proofs.YtbpjnkeilhfajaaGreat.Given Go.Proofs.YtbpjnkeilhfajaaGreat.Num Go.Proofs.YtbpjnkeilhfajaaGreat.Sim
set_option linter.unusedVariables false
def twoZ (n : Nat) (lo hi : Nat → Int) : Nat → List RowZ
 | 0 => []
 | m + 1 => twoZ n lo hi m ++ [bnd n m 1 (-(hi m)), bnd n m (-1) (lo m)]
theorem twoZ_len (n : Nat) (lo hi : Nat → Int) : ∀ m, (twoZ n lo hi m).length = 2 * m
 | 0 => rfl
 | m + 1 => by rw [twoZ, List.length_append, twoZ_len n lo hi m]; simp; omega
theorem twoZ_mem {n : Nat} {lo hi : Nat → Int} : ∀ {m : Nat} {r : RowZ}, r ∈ twoZ n lo hi m → ∃ i, i < m ∧ (r = bnd n i 1 (-(hi i)) ∨ r = bnd n i (-1) (lo i))
 | 0, r, h => by cases h
 | m + 1, r, h => by
  rw [twoZ] at h
  rcases List.mem_append.1 h with h | h
  ·obtain ⟨i, hi, h⟩ := twoZ_mem h; exact ⟨i, by omega, h⟩
  ·simp only [List.mem_cons, List.not_mem_nil, or_false] at h
   exact ⟨m, Nat.lt_succ_self _, h⟩
theorem twoZ_pt {n : Nat} {lo hi : Nat → Int} {x : Nat → Rat} : ∀ {m : Nat}, m ≤ n → (Pt (twoZ n lo hi m) n x ↔ ∀ k, k < m → (lo k : Rat) ≤ x k ∧ x k ≤ (hi k : Rat))
 | 0, _ => ⟨fun _ k hk => absurd hk (Nat.not_lt_zero _), fun _ j hj => absurd hj (Nat.not_lt_zero _)⟩
 | m + 1, hm => by
  have e : twoZ n lo hi (m + 1) = twoZ n lo hi m ++ ([bnd n m 1 (-(hi m))] ++ [bnd n m (-1) (lo m)]) := rfl
  rw [e, pt_app, pt_app, twoZ_pt (by omega), pt_bnd (by omega), pt_bnd (by omega), Rat.intCast_neg, show ((1 : Int) : Rat) = 1 from rfl, show ((-1 : Int) : Rat) = -1 from rfl]
  constructor
  ·rintro ⟨h1, h2, h3⟩ k hk
   by_cases e : k = m
   ·subst e; constructor <;> grind
   ·exact h1 k (by omega)
  ·intro h
   refine ⟨fun k hk => h k (by omega), ?_, ?_⟩
   ·have := (h m (by omega)).2; grind
   ·have := (h m (by omega)).1; grind
theorem boxed_two {n : Nat} {lo hi : Nat → Int} {rows : List RowZ} (hlo : ∀ k, k < n → -9 ≤ lo k ∧ lo k ≤ hi k ∧ hi k ≤ 9) (hlen : ∀ r, r ∈ rows → r.1.length = n) (hc : ∀ r, r ∈ rows → ∀ c, c ∈ r.1 → c.natAbs ≤ 9) (hk : ∀ r, r ∈ rows → r.2.natAbs ≤ 9) (hf : 2 * (n : Int) + rows.length + tot lo hi n ≤ 27) : Boxed (twoZ n lo hi n ++ rows) n lo hi := by
 refine ⟨fun r hr => ?_, fun r hr => ?_, fun r hr => ?_, ?_, hlo, fun x hx k hk => ?_⟩
 ·rcases List.mem_append.1 hr with hr | hr
  ·obtain ⟨i, -, rfl | rfl⟩ := twoZ_mem hr <;> exact bnd_len _ _ _ _
  ·exact hlen r hr
 ·rcases List.mem_append.1 hr with hr | hr
  ·obtain ⟨i, -, rfl | rfl⟩ := twoZ_mem hr <;> exact bnd_c9 (by decide)
  ·exact hc r hr
 ·rcases List.mem_append.1 hr with hr | hr
  ·obtain ⟨i, hi', rfl | rfl⟩ := twoZ_mem hr
   ·have := hlo i hi'; show (-(hi i)).natAbs ≤ 9; omega
   ·have := hlo i hi'; show (lo i).natAbs ≤ 9; omega
  ·exact hk r hr
 ·rw [List.length_append, twoZ_len]; omega
 ·exact (twoZ_pt (Nat.le_refl n)).1 (pt_app.1 hx).1 k hk
theorem tot_const (a b : Int) : ∀ n : Nat, tot (fun _ => a) (fun _ => b) n = n * (b - a)
 | 0 => by rw [tot]; simp
 | n + 1 => by rw [tot, tot_const a b n, Int.natCast_add, Int.add_mul]; simp
theorem vol_seven : ∀ {n : Nat}, n ≤ 3 → 2 * vol (fun _ => -3) (fun _ => 3) n - 1 ≤ 1000
 | 0, _ => by decide
 | 1, _ => by decide
 | 2, _ => by decide
 | 3, _ => by decide
def boxZ (n : Nat) : List RowZ := twoZ n (fun _ => -3) (fun _ => 3) n
theorem boxed_box {n : Nat} (h3 : n ≤ 3) {rows : List RowZ} (hlen : ∀ r, r ∈ rows → r.1.length = n) (hc : ∀ r, r ∈ rows → ∀ c, c ∈ r.1 → c.natAbs ≤ 9) (hk : ∀ r, r ∈ rows → r.2.natAbs ≤ 9) (hf : rows.length ≤ 3) : Boxed (boxZ n ++ rows) n (fun _ => -3) (fun _ => 3) :=
 boxed_two (fun k hk => ⟨by decide, by decide, by decide⟩) hlen hc hk (by rw [tot_const]; omega)
def sumI (c : Nat → Int) : Nat → Int
 | 0 => 0
 | n + 1 => sumI c n + c n
theorem sumI_congr {x c : Nat → Int} : ∀ {n : Nat}, (∀ k, k < n → x k = c k) → sumI x n = sumI c n
 | 0, _ => rfl
 | n + 1, h => by rw [sumI, sumI, sumI_congr (fun k hk => h k (by omega)), h n (by omega)]
end Go.Proofs.YtbpjnkeilhfajaaGreat.Lin
end

section
/- Plain: all points of a box, told by their number (ashlarref12.Some). -/
namespace Go.Proofs.YtbpjnkeilhfajaaGreat.Lin
open Go.RowKit Go.Proofs.YtbpjnkeilhfajaaGreat.Given Go.Proofs.YtbpjnkeilhfajaaGreat.Num Go.Proofs.YtbpjnkeilhfajaaGreat.Sim
set_option linter.unusedVariables false
def nthP (side far : Nat) (N : Nat) (k : Nat) : Int := ((N / side ^ k % side : Nat) : Int) - (far : Int)
theorem digits_onto {side : Nat} (hs : 0 < side) (d : Nat → Nat) : ∀ n, (∀ k, k < n → d k < side) → ∃ N, N < side ^ n ∧ ∀ k, k < n → N / side ^ k % side = d k
 | 0, _ => ⟨0, by rw [Nat.pow_zero]; decide, fun k h => by omega⟩
 | n + 1, h => by
  obtain ⟨N, hN, hd⟩ := digits_onto hs d n (fun k hk => h k (by omega))
  have hp : 0 < side ^ n := Nat.pow_pos hs
  have hdn := h n (by omega)
  refine ⟨N + d n * side ^ n, ?_, fun k hk => ?_⟩
  ·rw [Nat.pow_succ, Nat.mul_comm (side ^ n) side]
   have h1 : (d n + 1) * side ^ n ≤ side * side ^ n := Nat.mul_le_mul_right _ hdn
   rw [Nat.add_mul, Nat.one_mul] at h1
   omega
  ·by_cases hkn : k = n
   ·subst hkn
    rw [Nat.add_mul_div_right _ _ hp, Nat.div_eq_of_lt hN, Nat.zero_add, Nat.mod_eq_of_lt hdn]
   ·rw [← hd k (by omega)]
    obtain ⟨m, rfl⟩ : ∃ m, n = k + 1 + m := ⟨n - (k + 1), by omega⟩
    have e : d (k + 1 + m) * side ^ (k + 1 + m) = (d (k + 1 + m) * side ^ m * side) * side ^ k := by
     rw [show k + 1 + m = m + 1 + k by omega, Nat.pow_add, Nat.pow_add, Nat.pow_one]
     simp only [Nat.mul_assoc]
    rw [e, Nat.add_mul_div_right _ _ (Nat.pow_pos hs), Nat.add_mul_mod_self_right]
theorem some_nth {rows : List RowZ} {n far : Nat} :
  (∃ N, N < (2 * far + 1) ^ n ∧ Pt rows n (fun k => (nthP (2 * far + 1) far N k : Rat))) ↔ ∃ q : Nat → Int, (∀ k, k < n → -(far : Int) ≤ q k ∧ q k ≤ (far : Int)) ∧ Pt rows n (fun k => (q k : Rat)) := by
 constructor
 ·rintro ⟨N, _, hp⟩
  refine ⟨nthP (2 * far + 1) far N, fun k _ => ?_, hp⟩
  have := Nat.mod_lt (N / (2 * far + 1) ^ k) (show 0 < 2 * far + 1 by omega)
  unfold nthP
  omega
 ·rintro ⟨q, hq, hp⟩
  obtain ⟨N, hN, hd⟩ := digits_onto (side := 2 * far + 1) (by omega) (fun k => (q k + far).toNat) n (fun k hk => by have := hq k hk; omega)
  refine ⟨N, hN, fun i hi => ?_⟩
  have h := hp i hi
  have e : ∀ m, m ≤ n → sumN m (fun k => (cz rows i k : Rat) * (nthP (2 * far + 1) far N k : Rat)) = sumN m (fun k => (cz rows i k : Rat) * (q k : Rat)) := by
   intro m
   induction m with
   | zero => intro _; rfl
   | succ m ih =>
    intro hm
    have hk : nthP (2 * far + 1) far N m = q m := by
     unfold nthP
     rw [hd m (by omega)]
     have := hq m (by omega)
     omega
    show sumN m _ + _ = sumN m _ + _
    rw [ih (by omega)]
    dsimp only
    rw [hk]
  rw [e n (Nat.le_refl n)]
  exact h
end Go.Proofs.YtbpjnkeilhfajaaGreat.Lin
end

section
/- Plain: the content of WholeKnows. -/
namespace Go.Proofs.YtbpjnkeilhfajaaGreat.Lin
open Go.RowKit Go.Proofs.YtbpjnkeilhfajaaGreat.Given Go.Proofs.YtbpjnkeilhfajaaGreat.Num Go.Proofs.YtbpjnkeilhfajaaGreat.Sim
set_option linter.unusedVariables false
def SomeB (rows : List RowZ) (n : Nat) (far : Int) : Prop := ∃ q : Nat → Int, (∀ k, k < n → -far ≤ q k ∧ q k ≤ far) ∧ Pt rows n (fun k => (q k : Rat))
theorem box_pt {n : Nat} {rows : List RowZ} {q : Nat → Int} (h : Pt (boxZ n ++ rows) n (fun k => (q k : Rat))) : ∀ k, k < n → -3 ≤ q k ∧ q k ≤ 3 := by
 have h1 := (pt_app.1 h).1
 unfold boxZ at h1
 rw [twoZ_pt (Nat.le_refl n)] at h1
 intro k hk
 have h2 := h1 k hk
 exact ⟨Rat.intCast_le_intCast.1 h2.1, Rat.intCast_le_intCast.1 h2.2⟩
theorem knows_law {n : Nat} (h3 : n ≤ 3) {rows : List RowZ} (hs : ∀ r, r ∈ rows → r.1.length = n ∧ (∀ x, x ∈ r.1 → x.natAbs ≤ 9) ∧ r.2.natAbs ≤ 9) (hl : rows.length ≤ 3) :
  (∃ p, wsolve (boxZ n ++ rows) n 1000 (chkW (boxZ n ++ rows)) = (1, p) ∧ p.length = n ∧ chkW (boxZ n ++ rows) p = true ∧ SomeB (boxZ n ++ rows) n 3) ∨
  (wsolve (boxZ n ++ rows) n 1000 (chkW (boxZ n ++ rows)) = (2, []) ∧ ¬ SomeB (boxZ n ++ rows) n 3) := by
 have B := boxed_box h3 (rows := rows) (fun r hr => (hs r hr).1) (fun r hr => (hs r hr).2.1) (fun r hr => (hs r hr).2.2) hl
 have w := wsolve_box h3 B (fuel := 1000) (vol_seven h3)
 rw [show ((1000 : Nat) : Int) = 1000 from rfl] at w
 rcases w with ⟨p, e, hl, hc, hp⟩ | ⟨e, hno⟩
 ·exact .inl ⟨p, e, hl, hc, fun k => p.getD k 0, box_pt hp, hp⟩
 ·exact .inr ⟨e, fun ⟨q, _, hq⟩ => hno q hq⟩
theorem none_law {rows : List RowZ} {v fuel : Int} (h : (wsolve rows v fuel (chkW rows)).1 = 2) (far : Int) : ¬ SomeB rows v.toNat far := by
 rintro ⟨q, -, hq⟩
 unfold wsolve at h
 split at h
 ·split at h
  ·cases h
  ·cases h
 ·exact srch_no v fuel.toNat fuel.toNat rows h q hq
theorem yes_chk {rows : List RowZ} {v fuel : Int} {p : List Int} (h : wsolve rows v fuel (chkW rows) = (1, p)) : chkW rows p = true := by
 unfold wsolve at h
 split at h
 ·split at h
  ·rename_i hc
   injection h with h1 h2
   rw [← h2]; exact hc
  ·injection h with h1 h2; cases h1
 ·rename_i hc
  injection h with h1 h2
  exact (hc h1).elim
end Go.Proofs.YtbpjnkeilhfajaaGreat.Lin
end

section
/- Plain: the content of WholeParity and WholeTurned. -/
namespace Go.Proofs.YtbpjnkeilhfajaaGreat.Lin
open Go.RowKit Go.Proofs.YtbpjnkeilhfajaaGreat.Given Go.Proofs.YtbpjnkeilhfajaaGreat.Num Go.Proofs.YtbpjnkeilhfajaaGreat.Sim
set_option linter.unusedVariables false
theorem pt_mem {rows : List RowZ} {n : Nat} {x : Nat → Rat} : Pt rows n x ↔ ∀ r, r ∈ rows → sumN n (fun k => ((r.1.getD k 0 : Int) : Rat) * x k) + (r.2 : Rat) ≤ 0 := by
 constructor
 ·intro h r hr
  obtain ⟨j, hj, rfl⟩ := List.getElem_of_mem hr
  have := h j hj
  unfold cz kz at this
  simpa [List.getD_eq_getElem?_getD, List.getElem?_eq_getElem hj] using this
 ·intro h j hj
  have := h rows[j] (List.getElem_mem hj)
  unfold cz kz
  simpa [List.getD_eq_getElem?_getD, List.getElem?_eq_getElem hj] using this
theorem sumN_int (a q : Nat → Int) : ∀ n, sumN n (fun k => ((a k : Int) : Rat) * (q k : Rat)) = ((sumI (fun k => a k * q k) n : Int) : Rat)
 | 0 => rfl
 | n + 1 => by
  show sumN n _ + _ = _
  rw [sumN_int a q n, sumI, Rat.intCast_add, Rat.intCast_mul]
theorem sumI_two (y : Nat → Int) : ∀ n, sumI (fun k => 2 * y k) n = 2 * sumI y n
 | 0 => rfl
 | n + 1 => by rw [sumI, sumI, sumI_two y n]; omega
theorem sumI_neg (y : Nat → Int) : ∀ n, sumI (fun k => -(y k)) n = -(sumI y n)
 | 0 => rfl
 | n + 1 => by rw [sumI, sumI, sumI_neg y n]; omega
theorem parity_none {n : Nat} {rows : List RowZ} {up dn : List Int} {y : Nat → Int} {K far : Int} (hu : ∀ k, k < n → up.getD k 0 = 2 * y k) (hd : ∀ k, k < n → dn.getD k 0 = -(2 * y k)) (hK : K % 2 = 1) : ¬ SomeB (rows ++ [(up, K), (dn, -K)]) n far := by
 rintro ⟨q, -, hq⟩
 have h := pt_mem.1 hq
 have h1 := h (up, K) (by simp)
 have h2 := h (dn, -K) (by simp)
 dsimp only at h1 h2
 have e1 : sumN n (fun k => ((up.getD k 0 : Int) : Rat) * (q k : Rat)) = ((2 * sumI (fun k => y k * q k) n : Int) : Rat) := by
  rw [← sumI_two, show sumI (fun k => 2 * (y k * q k)) n = sumI (fun k => (2 * y k) * q k) n from sumI_congr (fun k _ => by rw [Int.mul_assoc]), ← sumN_int]
  exact sumN_congr fun k hk => by rw [hu k hk]
 have e2 : sumN n (fun k => ((dn.getD k 0 : Int) : Rat) * (q k : Rat)) = ((-(2 * sumI (fun k => y k * q k) n) : Int) : Rat) := by
  rw [← sumI_two, ← sumI_neg, show sumI (fun k => -(2 * (y k * q k))) n = sumI (fun k => (-(2 * y k)) * q k) n from sumI_congr (fun k _ => by rw [Int.neg_mul, Int.mul_assoc]), ← sumN_int]
  exact sumN_congr fun k hk => by rw [hd k hk]
 rw [e1, ← Rat.intCast_add] at h1
 rw [e2, ← Rat.intCast_add] at h2
 have h3 := (@Rat.intCast_le_intCast _ 0).1 h1
 have h4 := (@Rat.intCast_le_intCast _ 0).1 h2
 omega
def turnZ (r : RowZ) : RowZ := (r.1.set 0 (-(r.1.getD 0 0)), r.2)
def turnP (x : Nat → Rat) : Nat → Rat := fun k => if k = 0 then -(x 0) else x k
theorem turn_sum {r : RowZ} {x : Nat → Rat} : ∀ {n : Nat}, r.1.length = n → ∀ m, m ≤ n → sumN m (fun k => (((turnZ r).1.getD k 0 : Int) : Rat) * x k) = sumN m (fun k => ((r.1.getD k 0 : Int) : Rat) * turnP x k) := by
 intro n hl m hm
 refine sumN_congr fun k hk => ?_
 unfold turnZ turnP
 dsimp only
 by_cases h : k = 0
 ·subst h
  have h0 : 0 < r.1.length := by omega
  rw [if_pos rfl]
  have e : (r.1.set 0 (-(r.1.getD 0 0))).getD 0 0 = -(r.1.getD 0 0) := by
   rw [List.getD_eq_getElem?_getD, List.getElem?_set]
   simp [h0]
  rw [e, Rat.intCast_neg]
  grind
 ·rw [if_neg h]
  have e : (r.1.set 0 (-(r.1.getD 0 0))).getD k 0 = r.1.getD k 0 := by
   rw [List.getD_eq_getElem?_getD, List.getElem?_set, if_neg (fun e => h e.symm), List.getD_eq_getElem?_getD]
  rw [e]
theorem turn_pt {l : List RowZ} {n : Nat} (hl : ∀ r, r ∈ l → r.1.length = n) {x : Nat → Rat} : Pt (l.reverse.map turnZ) n x ↔ Pt l n (turnP x) := by
 rw [pt_mem, pt_mem]
 constructor
 ·intro h r hr
  have := h (turnZ r) (List.mem_map.2 ⟨r, List.mem_reverse.2 hr, rfl⟩)
  rw [turn_sum (hl r hr) n (Nat.le_refl n)] at this
  exact this
 ·intro h r hr
  obtain ⟨r', hr', rfl⟩ := List.mem_map.1 hr
  have hm := List.mem_reverse.1 hr'
  rw [turn_sum (hl r' hm) n (Nat.le_refl n)]
  exact h r' hm
theorem turned_law {n : Nat} (h3 : n ≤ 3) {rows : List RowZ} (hs : ∀ r, r ∈ rows → r.1.length = n ∧ (∀ x, x ∈ r.1 → x.natAbs ≤ 9) ∧ r.2.natAbs ≤ 9) (hl : rows.length ≤ 3) {m : List RowZ} (hm : (boxZ n ++ rows).reverse.map turnZ = m) {a b : Int × List Int}
  (ha : wsolve (boxZ n ++ rows) n 1000 (chkW (boxZ n ++ rows)) = a) (hb : wsolve m n 1000 (chkW m) = b) :
  a.1 = b.1 ∧ (a.1 = 1 ∨ a.1 = 2) ∧ (b.1 = 1 → chkW m b.2 = true) := by
 have B := boxed_box h3 (rows := rows) (fun r hr => (hs r hr).1) (fun r hr => (hs r hr).2.1) (fun r hr => (hs r hr).2.2) hl
 have hpt : ∀ x : Nat → Rat, Pt m n x ↔ Pt (boxZ n ++ rows) n (turnP x) := fun x => by rw [← hm]; exact turn_pt B.len
 have BM : Boxed m n (fun _ => -3) (fun _ => 3) := by
  refine ⟨fun r hr => ?_, fun r hr => ?_, fun r hr => ?_, ?_, B.lo9, fun x hx k hk => ?_⟩
  ·rw [← hm] at hr
   obtain ⟨r', hr', rfl⟩ := List.mem_map.1 hr
   unfold turnZ
   rw [List.length_set]
   exact B.len r' (List.mem_reverse.1 hr')
  ·rw [← hm] at hr
   obtain ⟨r', hr', rfl⟩ := List.mem_map.1 hr
   have hmem := List.mem_reverse.1 hr'
   intro c hc
   unfold turnZ at hc
   rcases List.mem_or_eq_of_mem_set hc with h | h
   ·exact B.c9 r' hmem c h
   ·rw [h]
    cases hr0 : r'.1 with
    | nil => simp
    | cons y ys =>
     have := B.c9 r' hmem y (by rw [hr0]; simp)
     simp
     omega
  ·rw [← hm] at hr
   obtain ⟨r', hr', rfl⟩ := List.mem_map.1 hr
   exact B.k9 r' (List.mem_reverse.1 hr')
  ·rw [← hm, List.length_map, List.length_reverse]; exact B.few
  ·have h := B.keep _ ((hpt x).1 hx) k hk
   unfold turnP at h
   by_cases h0 : k = 0
   ·subst h0
    rw [if_pos rfl] at h
    have e1 : ((-3 : Int) : Rat) = -((3 : Int) : Rat) := by decide +kernel
    rw [e1] at h ⊢
    grind
   ·rw [if_neg h0] at h
    exact h
 have w1 := wsolve_box h3 B (fuel := 1000) (vol_seven h3)
 have w2 := wsolve_box h3 BM (fuel := 1000) (vol_seven h3)
 rw [show ((1000 : Nat) : Int) = 1000 from rfl] at w1 w2
 rw [ha] at w1
 rw [hb] at w2
 have hcast : ∀ q : Nat → Int, turnP (fun k => (q k : Rat)) = fun k => (((if k = 0 then -(q 0) else q k : Int)) : Rat) := fun q => by
  funext k
  unfold turnP
  split
  ·rw [Rat.intCast_neg]
  ·rfl
 have hturn : ∀ x : Nat → Rat, turnP (turnP x) = x := fun x => by
  funext k
  unfold turnP
  by_cases h : k = 0
  ·subst h; simp
  ·simp [h]
 rcases w1 with ⟨p, e1, -, -, p1⟩ | ⟨e1, n1⟩ <;> rcases w2 with ⟨q, e2, -, c2, p2⟩ | ⟨e2, n2⟩
 ·subst e1 e2; exact ⟨rfl, .inl rfl, fun _ => c2⟩
 ·refine (n2 (fun k => if k = 0 then -(p.getD 0 0) else p.getD k 0) ?_).elim
  rw [← hcast (fun k => p.getD k 0), hpt, hturn]
  exact p1
 ·refine (n1 (fun k => if k = 0 then -(q.getD 0 0) else q.getD k 0) ?_).elim
  rw [← hcast (fun k => q.getD k 0)]
  exact (hpt _).1 p2
 ·subst e1 e2; exact ⟨rfl, .inr rfl, fun h => by cases h⟩
end Go.Proofs.YtbpjnkeilhfajaaGreat.Lin
end
