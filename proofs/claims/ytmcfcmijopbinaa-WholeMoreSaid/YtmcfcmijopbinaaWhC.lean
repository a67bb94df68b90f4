import Derived.Test.YtmcfcmijopbinaaTl
import Derived.Test.YtmcfcmijopbinaaLnJP
import Derived.Test.YtmcfcmijopbinaaLnD
import Derived.Lib.SliceRun
section
/- linear's room. -/
namespace Go.Proofs.Ytmcfcmijopbinaa.Ln
open Go.RowKit Go.Proofs.Ytmcfcmijopbinaa.Num Go.Proofs.Ytmcfcmijopbinaa.Given Go.Proofs.Ytmcfcmijopbinaa.Lin Go.Proofs.YtmcfcmijopbinaaW.PrintWords
set_option linter.unusedVariables false
set_option linter.unusedSimpArgs false
def RatEnd (o : Option Rat) (e : Ending) : Prop := match o with
 | some x => e = .returned (rv x)
 | none => e = .panicked LargeL
set_option maxHeartbeats 8000000 in
set_option maxRecDepth 100000 in
theorem room_any (w : World) (base tb vars v : Nat) (t : Tab) (vb vr vv vl : Value) (rs : List Value) (hT : TabAt w base tb vars t vb vr vv vl rs) (hW : WfT vars t) (h0 : vars ≤ v) (h1 : v < t.value.length) :
  Calls Try.prog 52 #[.pointer (some ⟨tb, 0, none⟩), .int .i64 v] w fun e w' => RatEnd (okQ (rdQ t.limits (v - vars) - rdQ t.value v)) e ∧ Below w.heap.size w w' := by
 have h2 : v - vars < t.limits.length := by have := hW.vl; omega
 have hm := hW.max
 obtain ⟨g1, c1, rfl, _, _, x0, x1, _⟩ := rowQ_rd hT.value h1
 obtain ⟨g2, c2, rfl, _, _, y0, y1, _⟩ := rowQ_rd hT.limits h2
 have b0 : w.cell? ⟨tb, 0, none⟩ = some (.int .i64 vars) := blk_cell hT.box 0
 have b3 : w.cell? ⟨tb, 3, none⟩ = some (.slice (some ⟨g1, 0, none⟩) t.value.length c1) := blk_cell hT.box 3
 have b4 : w.cell? ⟨tb, 4, none⟩ = some (.slice (some ⟨g2, 0, none⟩) t.limits.length c2) := blk_cell hT.box 4
 have fx := hW.fv v
 have fy := hW.fl (v - vars)
 generalize rdQ t.value v = x at *
 generalize rdQ t.limits (v - vars) = y at *
 have ew := wrapsub h0 (show v < 9223372036854775808 by omega)
 have ew2 : IntKind.i64.wrap ((v : Int) - (vars : Int)) = ((v - vars : Nat) : Int) := by rw [IntKind.wrap_i64]; unfold wrap64 at ew; exact ew
 have HC := Lib.hid (show Cells [(⟨tb, 0, none⟩, .int .i64 vars), (⟨tb, 3, none⟩, .slice (some ⟨g1, 0, none⟩) t.value.length c1), (⟨tb, 4, none⟩, .slice (some ⟨g2, 0, none⟩) t.limits.length c2), (⟨g1, v * 2, none⟩, .int .i64 x.num), (⟨g1, v * 2 + 1, none⟩, .int .i64 x.den), (⟨g2, (v - vars) * 2, none⟩, .int .i64 y.num), (⟨g2, (v - vars) * 2 + 1, none⟩, .int .i64 y.den)] w from ⟨b0, b3, b4, x0, x1, y0, y1, trivial⟩)
 clear hT hW b0 b3 b4 x0 x1 y0 y1 hm h0
 by_cases hf : Fit (y - x)
 ·rw [okQ_fit hf]
  go_enter Try.func52, Try.ntmps52
  go_wp2_with fail
  have hb0 : Below w.heap.size w (w.alloc (.cells #[.int .i64 0, .int .i64 0] 43)).drew := ((Below.refl _ _).alloc (Nat.le_refl _) _).drew
  have HP := Lib.hid (⟨blk_new w _, by simp⟩ : (w.alloc (.cells #[.int .i64 0, .int .i64 0] 43)).drew.heap[w.heap.size]? = some (.cells #[.int .i64 0, .int .i64 0] 43 (0, 0)) ∧ w.heap.size < (w.alloc (.cells #[.int .i64 0, .int .i64 0] 43)).drew.heap.size)
  refine wp_region_L 23 (Hd _ w w.heap.size) (by kernel_rfl) (⟨Nat.le_refl _, HC.out.keep hb0, hb0⟩) (fun hHeld => ?_)
  refine tl0.go ?_
  refine tl1.go ?_
  refine tl2.go ?_
  refine tl3.go ?_
  refine tl4.go ?_
  refine tl5.go ?_
  refine tl6.go ?_
  refine tl7.go ?_
  refine tl8.go ?_
  refine tl9.go ?_
  refine tl10.go ?_
  refine tl11.go ?_
  refine tl12.go ?_
  refine tl13.go ?_
  refine tl14.go ?_
  refine tl15.go ?_
  refine tl16.go ?_
  refine tl17.go ?_
  refine tl18.go ?_
  refine al19.ret (minus_ok fy fx hf _) (fun w2 hb2 hHeld => ?_); (try have HP := hp_keep HP hb2)
  refine tl20.go ?_
  refine tl21.go ?_
  refine al22.ret (mustq_ok _ _) (fun w2 hb2 hHeld => ?_); (try have HP := hp_keep HP hb2)
  refine wpAnyL_ready (rs := [23]) (by kernel_rfl) (by simp) (al23 (fun K hK => ?_) (AllReadyL.nil))
  focus (obtain ⟨s0, s1, sf0, sf1⟩ := box2 HP; go_simp)
  refine hK.out _ _ (fun h => absurd rfl h) (fun _ => ?_)
  focus (clear hK K; try simp only [Act.put, List.setIfInBounds_toArray, List.set_cons_zero, List.set_cons_succ])
  refine wpAnyL_done (by kernel_rfl) ?_ _; rotate_left 1
  go_wp2
  obtain ⟨s0, s1, sf0, sf1⟩ := box2 HP
  simp [bodyPost, results, Try.results52, go_sem, s0, s1, sf0, sf1]
  exact ⟨rfl, (hHeld.below.setCell (Nat.le_refl _) _).setCell (Nat.le_refl _) _⟩
 ·rw [okQ, if_neg hf]
  go_enter Try.func52, Try.ntmps52
  go_wp2_with fail
  have hb0 : Below w.heap.size w (w.alloc (.cells #[.int .i64 0, .int .i64 0] 43)).drew := ((Below.refl _ _).alloc (Nat.le_refl _) _).drew
  refine wp_region_L 23 (Hd _ w w.heap.size) (by kernel_rfl) (⟨Nat.le_refl _, HC.out.keep hb0, hb0⟩) (fun hHeld => ?_)
  refine tl0.go ?_
  refine tl1.go ?_
  refine tl2.go ?_
  refine tl3.go ?_
  refine tl4.go ?_
  refine tl5.go ?_
  refine tl6.go ?_
  refine tl7.go ?_
  refine tl8.go ?_
  refine tl9.go ?_
  refine tl10.go ?_
  refine tl11.go ?_
  refine tl12.go ?_
  refine tl13.go ?_
  refine tl14.go ?_
  refine tl15.go ?_
  refine tl16.go ?_
  refine tl17.go ?_
  refine tl18.go ?_
  refine al19.ret (minus_no fy fx hf _) (fun w2 hb2 hHeld => ?_); (try have HP := hp_keep HP hb2)
  refine tl20.go ?_
  refine tl21.go ?_
  refine wpAnyL_ready (rs := [22]) (by kernel_rfl) (by simp) (al22 (fun K hK => ?_) (AllReadyL.nil))
  focus go_simp
  ·refine (mustR_no _ _ _).mono ?_; rintro e w2 ⟨rfl, hb2⟩; exact ⟨rfl, rfl, (hHeld.keep hb2).below⟩
end Go.Proofs.Ytmcfcmijopbinaa.Ln
end

section
/- Plain: whole.Check; what whole.Solve answers of rows in a small box. -/
namespace Go.Proofs.Ytmcfcmijopbinaa.Lin
open Go.RowKit Go.Proofs.Ytmcfcmijopbinaa.Given Go.Proofs.Ytmcfcmijopbinaa.Num Go.Proofs.Ytmcfcmijopbinaa.Sim
set_option linter.unusedVariables false
def holdW (r : RowZ) (p : List Int) : Bool := match weighF r.1 p r.2 with
 | some s => decide (s ≤ 0)
 | none => false
def chkW (rows : List RowZ) (p : List Int) : Bool := rows.all fun r => decide (r.1.length = p.length) && holdW r p
theorem empty_len {v f : Int} (h : (solve [] v f).1 = 1) : (solve [] v f).2.1.length = v.toNat := by
 unfold solve at h ⊢
 by_cases hm : mayQ [] v = true
 ·have h1 : (made [] v.toNat).bind (loop v.toNat f.toNat) = some (1, List.replicate v.toNat 0, []) := by
   simp only [made, limF, Option.bind_some, List.length_nil, List.range_zero, List.map_nil, Nat.add_zero]
   unfold loop
   have hw : wrong v.toNat (⟨[], [], List.replicate v.toNat 0, []⟩ : Tab) = none := rfl
   rw [hw]
   simp
  rw [if_pos hm, h1] at h ⊢
  dsimp only at h ⊢
  split at h
  ·cases h
  ·rename_i hc
   rw [if_neg hc]; simp
 ·rw [if_neg hm] at h; cases h
theorem srch_len (vars : Int) : ∀ (d f : Nat) (rows : List RowZ), (srch vars d f rows).1 = 1 → (srch vars d f rows).2.2.length = vars.toNat
 | 0, f, rows, h => by cases h
 | d + 1, 0, rows, h => by cases h
 | d + 1, f + 1, rows, h => by
  by_cases hne : rows = []
  ·subst hne
   rcases srch_step vars d f [] rfl with ⟨h1, e⟩ | ⟨h1, hfr, e⟩ | ⟨i, a, b, h1, hfr, ha, hb, e⟩
   ·rw [e] at h; exact (h1 h).elim
   ·rw [e]; show (List.map _ _).length = _; rw [List.length_map, empty_len h1]
   ·obtain ⟨hi, hd⟩ := frac_some hfr
    refine (hd (solve_empty vars 10000 _ ?_)).elim
    have e : rdQ (solve [] vars 10000).2.1 i = (solve [] vars 10000).2.1[i] := by unfold rdQ; simp [List.getElem?_eq_getElem hi]
    rw [e]; exact List.getElem_mem hi
  ·exact (srch_yes vars (d + 1) (f + 1) rows h).1 hne
theorem chk_true {rows : List RowZ} {vars : Nat} {p : List Int} (h3 : vars ≤ 3) (hl : p.length = vars) (hlen : ∀ r, r ∈ rows → r.1.length = vars) (hc : ∀ r, r ∈ rows → ∀ c, c ∈ r.1 → c.natAbs ≤ 9) (hk : ∀ r, r ∈ rows → r.2.natAbs ≤ 9) (hp : ∀ x, x ∈ p → x.natAbs ≤ 9) :
  chkW rows p = true ↔ Pt rows vars (fun k => ((p.getD k 0 : Int) : Rat)) := by
 have key : ∀ r, r ∈ rows → ((decide (r.1.length = p.length) && holdW r p) = true ↔ Pt [r] vars (fun k => ((p.getD k 0 : Int) : Rat))) := fun r hr => by
  have hf := weighF_fits (ws := r.1) (cs := p) (s := r.2) (S := 9) (hc r hr) hp (hk r hr) (by rw [hlen r hr]; omega)
  have hs := weighF_some (by rw [hlen r hr, hl]) hf
  rw [pt_one]
  unfold holdW
  rw [hf]
  dsimp only
  rw [hlen r hr, hl, decide_eq_true rfl, Bool.true_and, decide_eq_true_eq]
  rw [hlen r hr] at hs
  have e : ((r.2 + dotZ r.1 p ≤ 0) : Prop) ↔ (((r.2 + dotZ r.1 p : Int) : Rat) ≤ 0) := by
   have := @Rat.intCast_le_intCast (r.2 + dotZ r.1 p) 0
   exact this.symm
  rw [e, hs, Rat.add_comm]
 unfold chkW
 rw [List.all_eq_true]
 constructor
 ·intro h j hj
  have hr := List.getElem_mem hj
  have h1 := (key _ hr).1 (h _ hr) 0 (Nat.zero_lt_one)
  unfold cz kz at h1 ⊢
  rw [row_get hj]
  exact h1
 ·intro h r hr
  obtain ⟨j, hj, rfl⟩ := List.getElem_of_mem hr
  refine (key _ hr).2 ?_
  intro i hi
  obtain rfl : i = 0 := by simpa using hi
  have h1 := h j hj
  unfold cz kz at h1 ⊢
  rw [row_get hj] at h1
  exact h1
theorem Boxed.int {rows : List RowZ} {vars : Nat} {lo hi : Nat → Int} (h : Boxed rows vars lo hi) {p : Nat → Int} (hp : Pt rows vars (fun k => (p k : Rat))) {k : Nat} (hk : k < vars) : lo k ≤ p k ∧ p k ≤ hi k := by
 have := h.keep _ hp k hk
 exact ⟨Rat.intCast_le_intCast.1 this.1, Rat.intCast_le_intCast.1 this.2⟩
theorem mem_getD {p : List Int} {x : Int} (h : x ∈ p) : ∃ k, k < p.length ∧ p.getD k 0 = x := by
 obtain ⟨k, hk, rfl⟩ := List.getElem_of_mem h
 exact ⟨k, hk, by simp [List.getElem?_eq_getElem hk]⟩
theorem wsolve_box {rows : List RowZ} {vars : Nat} {lo hi : Nat → Int} (h3 : vars ≤ 3) (hb : Boxed rows vars lo hi) {fuel : Nat} (hf : 2 * vol lo hi vars - 1 ≤ (fuel : Int)) :
  (∃ p, wsolve rows vars fuel (chkW rows) = (1, p) ∧ p.length = vars ∧ chkW rows p = true ∧ Pt rows vars (fun k => ((p.getD k 0 : Int) : Rat))) ∨ (wsolve rows vars fuel (chkW rows) = (2, []) ∧ ∀ p : Nat → Int, ¬ Pt rows vars (fun k => (p k : Rat))) := by
 have hk := knows h3 fuel fuel rows lo hi (Nat.le_refl _) hb hf
 unfold wsolve
 rw [Int.toNat_natCast]
 rcases hk.1 with h1 | h2
 ·have hl := srch_len (vars : Int) fuel fuel rows h1
  have hp := (srch_yes (vars : Int) fuel fuel rows h1).2
  rw [Int.toNat_natCast] at hl hp
  have hc : chkW rows (srch vars fuel fuel rows).2.2 = true := (chk_true h3 hl hb.len hb.c9 hb.k9 (fun x hx => by
   obtain ⟨k, hk, rfl⟩ := mem_getD hx
   have h4 := hb.int hp (k := k) (by omega)
   have h5 := hb.lo9 k (by omega)
   omega)).2 hp
  rw [if_pos h1, if_pos hc]
  exact .inl ⟨_, rfl, hl, hc, hp⟩
 ·rw [if_neg (by omega), h2]
  have := srch_no (vars : Int) fuel fuel rows h2
  rw [Int.toNat_natCast] at this
  exact .inr ⟨rfl, this⟩
end Go.Proofs.Ytmcfcmijopbinaa.Lin
end

section
/- slices.Clone of rows; whole.bound; whole.holds; whole.Check. -/
namespace Go.Proofs
theorem Z410 {p : Prop} (h : p := by repeat (first | exact Below.refl _ _ | with_reducible assumption | refine Below.alloc ?_ (by first | exact Nat.le_refl _ | (simp; done) | (simp; omega) | omega) _ | refine Below.setCell ?_ (by first | exact Nat.le_refl _ | (simp; done) | (simp; omega) | omega) _ | refine Below.drew ?_ | refine bdrewN ?_ _)) : p := h
theorem Z411 {p : Prop} (h : p := by first | exact Nat.le_refl _ | (simp; done) | (simp; omega) | omega) : p := h
end Go.Proofs
namespace Go.Proofs.Ytmcfcmijopbinaa.Ln
open Go.RowKit Go.Proofs.Ytmcfcmijopbinaa.Num Go.Proofs.Ytmcfcmijopbinaa.Given Go.Proofs.Ytmcfcmijopbinaa.Lin Go.Proofs.YtmcfcmijopbinaaW.PrintWords
set_option linter.unusedVariables false
set_option linter.unusedSimpArgs false
set_option maxHeartbeats 8000000 in
set_option maxRecDepth 100000 in
theorem cloneR_any {n : Nat} {A : Option Addr} {c : Nat} {raws : List Value} {w : World} (hraw : Raw w A n 2 raws) (hn : n ≤ 1000000) :
  Calls Try.prog 12 #[.slice A n c] w fun e w' => ∃ v', e = .returned v' ∧ w'.ownsRow w.heap.size 25 2 v' n raws ∧ Below w.heap.size w w' := by
 have q22 : ∀ (w : World) (a : Option Addr) (n c n' c' : Nat), (binOp .eql 22 (.slice a n c) (.slice none n' c')).run Try.prog w = .ok (.bool a.isNone) w := fun w a n c n' c' => Lib.run_eql_slice_nil w _ _ a n c n' c' Try.underlying22
 cases A with
 | none =>
  have hl := hraw.nil rfl
  subst hl
  have hr0 : raws = [] := List.eq_nil_of_length_eq_zero (by rw [hraw.len])
  subst hr0
  clear hn hraw
  go_enter Try.func12, Try.ntmps12
  go_wp2
  go_ret
  exact ⟨_, rfl, ⟨rfl, .inl ⟨rfl, rfl⟩⟩, Below.refl _ _⟩
 | some ad =>
  have HR := Lib.hid hraw
  have HN := Lib.hid hn
  clear hn hraw
  have HO := own_none (w := w) (base := w.heap.size) (e := 25) (size := 2) (w2 := w.alloc (.cells #[] 25)) (g := w.heap.size) (Lib.hid ⟨blk_new _ _, by simp⟩) (Nat.le_refl _)
  go_enter Try.func12, Try.ntmps12
  go_wp2_with (at_builtin; refine Hid.out ?_)
  refine Lib.hid ?_
  refine wpList_appR rfl (.tmp 5) (.tmp 6) _ rfl w.heap.size 25 (.agg #[.slice none 0 0, .int .i64 0]) 2 32 Try.underlying22 infoRow rfl (by decide) _ 0 [] rfl HO.out (some ad) n c raws rfl (HR.out.below ((Below.refl _ _).alloc (Nat.le_refl _) _)) (by have := HN.out; unfold maxLen; omega) (by have := HN.out; omega) (by simp) ?_
  intro v' w1 ho hg
  have HB := Lib.hid (show Below w.heap.size w w1 from Below.grown ((Below.refl _ _).alloc (Nat.le_refl _) _) hg (by simp) (fun k hk => (HO.out.lt k hk).1))
  clear hg HO
  go_wp2
  go_ret
  exact ⟨_, rfl, by have := ho.out; rwa [Nat.zero_add, List.nil_append] at this, HB.out⟩
theorem blk_newk2 {w : World} {o : Obj} {k : Nat} (h : k = w.heap.size) : (w.alloc o).heap[k]? = some o := by subst h; exact blk_new w o
theorem infoI2 : (Try.prog.info? 2).map (fun i => (i.zero, i.size, i.bytes)) = some (some (.int .i64 0), 1, 8) := by kernel_rfl
theorem C_cells {w : World} {g : Nat} {ty : TypeId} {l : List Int} {cs : Array Value} (hb : w.heap[g]? = some (.cells cs ty (0, 0))) (hcs : ∀ (j : Nat) (x : Int), l[j]? = some x → cs[j]? = some (Value.int .i64 x)) (hn : l.length ≤ 1000000) : (Kd.int .i64).C w (some ⟨g, 0, none⟩) l.length l := by
 refine ⟨rfl, by omega, fun _ => ⟨_, rfl, fun j p hj => ⟨[.int .i64 p], rfl, rfl, fun i u hu => ?_⟩⟩⟩
 match i, hu with
 | 0, hu =>
  have e : (⟨g, 0, none⟩ : Addr).add (j * (Kd.int .i64).sz + 0) = ⟨g, j, none⟩ := by rw [Addr.add_lit, show (Kd.int .i64).sz = 1 from rfl, Nat.mul_one, Nat.zero_add, Nat.add_zero]
  rw [e, blk_cell hb, hcs j p hj]
  exact hu
set_option maxHeartbeats 8000000 in
set_option maxRecDepth 100000 in
theorem bound_any {vars i : Nat} {s k : Int} (hi : i < vars) (hv : vars ≤ 64) (w : World) :
  Calls Try.prog 19 #[.int .i64 vars, .int .i64 i, .int .i64 s, .int .i64 k] w fun e w' => (∃ g cs, e = .returned (.agg #[.slice (some ⟨g, 0, none⟩) vars vars, .int .i64 k]) ∧ w.heap.size ≤ g ∧ w'.heap[g]? = some (.cells cs 2 (0, 0)) ∧ ∀ (j : Nat) (x : Int), ((List.replicate vars (0 : Int)).set i s)[j]? = some x → cs[j]? = some (Value.int .i64 x)) ∧ Below w.heap.size w w' := by
 obtain ⟨cs, hcs⟩ : ∃ cs, madeCells #[.int .i64 0] vars = cs := ⟨_, rfl⟩
 have hsz : cs.size = vars := by rw [← hcs, size_madeCells]
 have hget : ∀ j, j < vars → cs[j]? = some (Value.int .i64 0) := fun j hj => by
  have h1 := toList_madeCells_one (.int .i64 0) vars
  rw [hcs] at h1
  rw [← Array.getElem?_toList, h1]
  simp [hj]
 have hmake : ∀ W : World, (Instr.makeSlice 23 (.int .i64 (vars : Int)) (.int .i64 (vars : Int))).run Try.prog W = .ok (.slice (some ⟨W.heap.size, 0, none⟩) vars vars) (W.alloc (.cells cs 2)) := fun W => by
  cases hq : Try.prog.info? 2 with
  | none => have := infoI2; rw [hq] at this; cases this
  | some i0 =>
   have h0 := infoI2
   rw [hq] at h0
   injection h0 with h0
   injection h0 with h1 h2
   injection h2 with h2 h3
   have := run_make (P := Try.prog) W 23 2 i0 (.int .i64 0) Try.underlying23 hq h1 .i64 .i64 (vars : Int) (vars : Int) (by omega) (Int.le_refl _) (by rw [h3]; omega) (by omega)
   rw [this, Int.toNat_natCast, h2, Nat.mul_one, ← hcs]
   rfl
 have e1 : ((i : Int) < (vars : Int)) = True := eq_true (by omega)
 have e2 : (i < vars) = True := eq_true hi
 have e3 : cs[i]? = some (Value.int .i64 0) := hget i hi
 have HG := Lib.hid (And.intro hget (And.intro hsz (And.intro hi hv)))
 clear hcs hget hsz hi hv
 go_enter Try.func19, Try.ntmps19
 go_wp2
 refine bodyPost_ret (v := .agg #[.slice (some ⟨w.heap.size + 1, 0, none⟩) vars vars, .int .i64 k]) (by simp [results, Try.results19, go_sem]) rfl ?_
 obtain ⟨hget, hsz, hi, hv⟩ := HG.out
 refine ⟨⟨w.heap.size + 1, cs.setIfInBounds i (.int .i64 s), rfl, by omega, blk_alloc (blk_newk2 (by simp)) _, fun j x hj => ?_⟩, Z410⟩
 rw [List.getElem?_set] at hj
 rw [Array.getElem?_setIfInBounds]
 by_cases e : i = j
 ·subst e
  rw [if_pos rfl, if_pos (by rw [hsz]; exact hi)]
  rw [if_pos rfl] at hj
  split at hj
  ·rw [← Option.some.inj hj]
  ·cases hj
 ·rw [if_neg e] at hj ⊢
  have hjv : j < vars := by
   have := (List.getElem?_eq_some_iff.1 hj).1
   simpa using this
  rw [hget j hjv]
  have : x = 0 := by
   rw [List.getElem?_replicate, if_pos hjv] at hj
   exact (Option.some.inj hj).symm
  rw [this]
set_option maxHeartbeats 16000000 in
set_option maxRecDepth 100000 in
theorem wholds_any {l p : List Int} {k : Int} {A A' : Option Addr} {c c' : Nat} {w0 w : World} (hl : l.length = p.length) (hC : (Kd.int .i64).C w0 A l.length l) (hP : (Kd.int .i64).C w0 A' p.length p) (hB : Below w0.heap.size w0 w) (hk : In64 k) (hin : ∀ x, x ∈ l → In64 x) (hpn : ∀ x, x ∈ p → In64 x) :
  Calls Try.prog 23 #[.agg #[.slice A l.length c, .int .i64 k], .slice A' p.length c'] w fun e w' => e = .returned (.bool (holdW (l, k) p)) ∧ Below w.heap.size w w' := by
 unfold holdW
 dsimp only
 obtain ⟨o, ho⟩ : ∃ o, weighF l p k = o := ⟨_, rfl⟩
 rw [ho]
 have HO := Lib.hid ho
 have HC := Lib.hid hC
 have HP := Lib.hid hP
 have HB := Lib.hid hB
 have HIN := Lib.hid (And.intro hin (And.intro hpn hk))
 have HL := Lib.hid hl
 clear hl hC hP hB hk hin hpn ho
 go_enter Try.func23, Try.ntmps23
 go_wp2
 go_loopw [5, 17] (fun v5 v17 wr => ∃ (j : Nat) (s : Int), j ≤ l.length ∧ v5 = .int .i64 s ∧ v17 = .int .i64 j ∧ In64 s ∧ weighF (l.drop j) (p.drop j) s = o ∧ Below w.heap.size w wr) (fun _ v17 _ => l.length - (intOf v17).toNat)
 case atStart => exact ⟨0, k, Nat.zero_le _, rfl, rfl, HIN.out.2.2, by rw [List.drop_zero, List.drop_zero]; exact HO.out, Z410⟩
 case round =>
  obtain ⟨j, s, hj, rfl, rfl, hs, hw, hbr⟩ := hrel
  by_cases hjl : j < l.length
  ·have e1 : ((j : Int) < (l.length : Int)) = True := eq_true (by omega)
   obtain ⟨ad, rfl, q0⟩ := i64_at (Kd.C_below HC.out (HB.out.trans (hbr.mono HB.out.size))) hjl
   obtain ⟨ad', rfl, q1⟩ := i64_at (Kd.C_below HP.out (HB.out.trans (hbr.mono HB.out.size))) (show j < p.length by rw [← HL.out]; exact hjl)
   have hx := HIN.out.1 _ (List.getElem_mem hjl)
   have hjp : j < p.length := by rw [← HL.out]; exact hjl
   have hy := HIN.out.2.1 _ (List.getElem_mem hjp)
   have e2 : ((j : Int) < (p.length : Int)) = True := eq_true (by omega)
   rw [List.drop_eq_getElem_cons hjl, List.drop_eq_getElem_cons hjp, weighF] at hw
   obtain ⟨x, hxe⟩ : ∃ x, l[j] = x := ⟨_, rfl⟩
   obtain ⟨y, hye⟩ : ∃ y, p[j] = y := ⟨_, rfl⟩
   rw [hxe] at q0 hx hw
   rw [hye] at q1 hy hw
   have hj63 : j < 9223372036854775807 := by have := Kd.C_max HC.out; omega
   have EW := Lib.hid (wrapj (show j + 1 < 9223372036854775808 by omega))
   have HJ := Lib.hid (And.intro hj hjl)
   have HBR := Lib.hid hbr
   have HS := Lib.hid hs
   clear hxe hye hj hjl hjp hbr hj63 hs
   by_cases hm : In64 (x * y)
   ·have HM := Lib.hid (fun W => mul_ok hx hy hm W)
    rw [okI_is hm, Option.bind_some] at hw
    by_cases ha : In64 (s + x * y)
    ·have HA := Lib.hid (fun W => add_ok HS.out hm ha W)
     rw [okI_is ha, Option.bind_some] at hw
     have HW := Lib.hid (And.intro hw ha)
     clear hw hm ha hx hy
     go_wp2_with fail
     refine (HM.out _).mono ?_
     rintro e w1 ⟨rfl, hb1⟩
     have HBR := Lib.hid (HBR.out.trans (hb1.mono HBR.out.size))
     clear hb1
     go_wp2_with fail
     refine (HA.out _).mono ?_
     rintro e w2 ⟨rfl, hb1⟩
     have HBR := Lib.hid (HBR.out.trans (hb1.mono HBR.out.size))
     clear hb1
     go_wp2
     refine ⟨⟨j + 1, s + x * y, HJ.out.2, rfl, congrArg (Value.int .i64) EW.out, HW.out.2, HW.out.1, HBR.out⟩, ?_⟩
     rw [EW.out]
     simp only [intOf, Int.toNat_natCast]
     exact meas_lt HJ.out.2
    ·have HA := Lib.hid (fun W => add_no HS.out hm ha W)
     rw [okI_no ha, Option.bind_none] at hw
     subst hw
     clear hm ha hx hy
     go_wp2_with fail
     refine (HM.out _).mono ?_
     rintro e w1 ⟨rfl, hb1⟩
     have HBR := Lib.hid (HBR.out.trans (hb1.mono HBR.out.size))
     clear hb1
     go_wp2_with fail
     refine (HA.out _).mono ?_
     rintro e w2 ⟨rfl, hb1⟩
     have HBR := Lib.hid (HBR.out.trans (hb1.mono HBR.out.size))
     clear hb1
     go_wp2
     go_ret
     exact ⟨rfl, HBR.out⟩
   ·have HM := Lib.hid (fun W => mul_no hx hy hm W)
    rw [okI_no hm, Option.bind_none] at hw
    subst hw
    have h0 : In64 (s + 0) := by rw [Int.add_zero]; exact HS.out
    have HA := Lib.hid (fun W => add_ok HS.out (show In64 0 from ⟨by decide, by decide⟩) h0 W)
    rw [Int.add_zero] at HA
    clear hm hx hy h0
    go_wp2_with fail
    refine (HM.out _).mono ?_
    rintro e w1 ⟨rfl, hb1⟩
    have HBR := Lib.hid (HBR.out.trans (hb1.mono HBR.out.size))
    clear hb1
    go_wp2_with fail
    refine (HA.out _).mono ?_
    rintro e w2 ⟨rfl, hb1⟩
    have HBR := Lib.hid (HBR.out.trans (hb1.mono HBR.out.size))
    clear hb1
    go_wp2
    go_ret
    exact ⟨rfl, HBR.out⟩
  ·have e1 : ((j : Int) < (l.length : Int)) = False := eq_false (by omega)
   rw [List.drop_of_length_le (by omega), weigh_nil] at hw
   subst hw
   have HBR := Lib.hid hbr
   clear hj hjl hbr hs
   go_wp2
   go_ret
   refine ⟨?_, HBR.out⟩
   first | rfl | simp
set_option maxHeartbeats 8000000 in
set_option maxRecDepth 100000 in
theorem check1_any {x : S25} {p : List Int} {B A' : Option Addr} {d c' pb : Nat} {w0 w : World} (hd : x.f0.length ≤ d) (hC : (Kd.int .i64).C w0 B x.f0.length x.f0) (hP : (Kd.int .i64).C w0 A' p.length p) (hB : Below w0.heap.size w0 w) (hpb : w.heap[pb]? = some (.cells #[.slice A' p.length c'] 23 (0, 0))) (hr : RowIn x) (hpn : ∀ y, y ∈ p → In64 y) :
  Calls Try.prog 22 #[.agg #[.slice B x.f0.length d, .int .i64 x.f1], .pointer (some ⟨pb, 0, none⟩)] w fun e w' => e = .returned (.bool (!(decide (x.f0.length = p.length) && holdW (toZ x) p))) ∧ Below w.heap.size w w' := by
 have q0 : w.cell? ⟨pb, 0, none⟩ = some (.slice A' p.length c') := blk_cell hpb 0
 have hlt := blk_lt hpb
 have hlt2 : pb < w.heap.size + 1 := by omega
 by_cases hl : x.f0.length = p.length
 ·have e1 : ((x.f0.length : Int) = (p.length : Int)) = True := eq_true (by omega)
  have e1b : (((x.f0.length : Int)) != ((p.length : Int))) = false := by rw [hl]; simp
  have HH := Lib.hid (fun W (hW : Below w.heap.size w W) => wholds_any (c := d) (c' := c') hl hC hP (hB.trans (hW.mono hB.size)) hr.1 hr.2 hpn)
  rw [decide_eq_true hl, Bool.true_and]
  obtain ⟨b, hb⟩ : ∃ b, holdW (toZ x) p = b := ⟨_, rfl⟩
  have hb2 : holdW (x.f0, x.f1) p = b := hb
  rw [hb]
  rw [hb2] at HH
  clear hb hb2 hl hC hP hB hr hpn hd hpb
  go_enter Try.func22, Try.ntmps22
  go_wp2_with fail
  refine (HH.out _ Z410).mono ?_
  rintro e w1 ⟨rfl, hb1⟩
  have HB := Lib.hid (show Below w.heap.size w w1 by refine Below.trans ?_ (hb1.mono Z411); exact Z410)
  clear hb1
  go_wp2
  go_ret
  exact ⟨rfl, HB.out⟩
 ·have e1 : ((x.f0.length : Int) = (p.length : Int)) = False := eq_false (by omega)
  have e1n : (x.f0.length = p.length) = False := eq_false hl
  rw [decide_eq_false hl, Bool.false_and]
  clear hl hC hP hB hr hpn hd hpb
  go_enter Try.func22, Try.ntmps22
  go_wp2
  go_ret
  exact ⟨by first | rfl | simp, Z410⟩
set_option maxHeartbeats 8000000 in
set_option maxRecDepth 100000 in
theorem wcheck_any (l : List S25) (p : List Int) (A A' : Option Addr) (c c' : Nat) (w : World) (hC : Kd.C k25 w A l.length l) (hc : l.length ≤ c) (hP : (Kd.int .i64).C w A' p.length p) (hin : ∀ r, r ∈ l → RowIn r) (hpn : ∀ y, y ∈ p → In64 y) :
  Calls Try.prog 10 #[.slice A l.length c, .slice A' p.length c'] w fun e w' => e = .returned (.bool (chkW (l.map toZ) p)) ∧ Below w.heap.size w w' := by
 have hmf := run_makeFunc
 have hany : (l.any fun x => !(decide (x.f0.length = p.length) && holdW (toZ x) p)) = !(chkW (l.map toZ) p) := by
  unfold chkW
  rw [List.all_map, List.all_eq_not_any_not, Bool.not_not]
  rfl
 have HA := Lib.hid (fun (W W1 : World) (hW : Below w.heap.size w W) (hW1 : Below W.heap.size W W1) (pb : Nat) (hpb : W.heap[pb]? = some (.cells #[.slice A' p.length c'] 23 (0, 0))) =>
  anyC (fun x => !(decide (x.f0.length = p.length) && holdW (toZ x) p)) l A c (.pointer (some ⟨pb, 0, none⟩)) W W1 (Kd.C_below hC hW) hc hW1 (fun x hx B d hd hCx W2 hW2 => check1_any hd hCx (Kd.C_below hP hW) (hW1.trans (hW2.mono hW1.size)) (blk_below (blk_below hpb hW1) hW2) (hin x hx) hpn))
 simp only [hany] at HA
 clear hany hC hP hin hpn
 go_enter Try.func10, Try.ntmps10
 go_wp2_with fail
 refine (HA.out _ _ Z410 (Below.refl _ _) w.heap.size (blk_new _ _)).mono ?_
 rintro e w1 ⟨rfl, hb1⟩
 have HB := Lib.hid (show Below w.heap.size w w1 by refine Below.trans ?_ (hb1.mono Z411); exact Z410)
 clear hb1
 go_wp2
 go_ret
 exact ⟨by first | rfl | simp, HB.out⟩
end Go.Proofs.Ytmcfcmijopbinaa.Ln
end
