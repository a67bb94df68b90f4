/- What linear.exchange carries from step to step. -/
import Derived.Test.YtdkbnbebioflaaaLnV
namespace Go.Proofs.Ytdkbnbebioflaaa.Ln
open Go.RowKit Go.Proofs.Ytdkbnbebioflaaa.Num Go.Proofs.Ytdkbnbebioflaaa.Given Go.Proofs.Ytdkbnbebioflaaa.Lin Go.Proofs.YtdkbnbebioflaaaW.PrintWords
set_option linter.unusedVariables false
set_option linter.unusedSimpArgs false

theorem al_newh {P : Program} {o : Oper} {ops : Array Oper} {a : Act} {w : World} {K : Act → World → Prop} {Q : Exit → Act → World → Prop} (ob : Obj)
    (hw : Region.wanted o (yielded ops a.tmps) = true)
    (hrun : ∀ w : World, (execOp a.eval o).run P w = .ok (.value (.pointer (some ⟨w.heap.size, 0, none⟩))) (w.alloc ob))
    (h : ∀ (g : Nat) (w2 : World), Hid (g = w.heap.size) → Below w.heap.size w w2 → Hid (w2.heap[g]? = some ob ∧ g < w2.heap.size) → K (a.put o.dst (.pointer (some ⟨g, 0, none⟩))) w2) :
    if Region.wanted o (yielded ops a.tmps) = true then Oper.wp P o a w K Q else K (a.put o.dst undef) w := al_new ob hw hrun fun g w2 hg => h g w2 (Lib.hid hg)
theorem wholem {z : Rat} (h : z = -1) (w : World) : Calls Try.prog 43 #[.int .i64 (-1)] w fun e w' => e = .returned (rv z) ∧ Below w.heap.size w w' := by subst h; exact whole_q (-1) w
abbrev ratB (x : Rat) : Obj := .cells #[.int .i64 x.num, .int .i64 x.den] 29 (0, 0)
structure Ex (w0 w : World) (base tb vars : Nat) (t : Tab) (vb vr vv vl : Value) (rs : List Value) : Prop where
  le : base ≤ w0.heap.size
  tab : TabAt w base tb vars t vb vr vv vl rs
  below : Below base w0 w
  old1 : ∀ k, vv.ownBlock = some k → k < w0.heap.size
  old2 : ∀ j (hj : j < rs.length) k, rs[j].ownBlock = some k → k < w0.heap.size
section
variable {w0 w w1 : World} {base tb vars : Nat} {t : Tab} {vb vr vv vl : Value} {rs : List Value}
theorem Ex.size (h : Ex w0 w base tb vars t vb vr vv vl rs) : base ≤ w.heap.size := Nat.le_trans h.le h.below.size
theorem Ex.start (h : TabAt w base tb vars t vb vr vv vl rs) (hb : base ≤ w.heap.size) : Ex w w base tb vars t vb vr vv vl rs :=
  ⟨hb, h, Below.refl _ _, fun k hk => by obtain ⟨c, h1, _⟩ := own_blk_ty h.value hk; exact blk_lt h1, fun j hj k hk => by obtain ⟨c, h1, _⟩ := own_blk_ty (h.row j hj) hk; exact blk_lt h1⟩
theorem Ex.keep (h : Ex w0 w base tb vars t vb vr vv vl rs) (hb : Below w.heap.size w w1) : Ex w0 w1 base tb vars t vb vr vv vl rs :=
  ⟨h.le, h.tab.below hb, h.below.trans (hb.mono h.size), h.old1, h.old2⟩
theorem Ex.setV {gV n c : Nat} (h : Ex w0 w base tb vars t vb vr (.slice (some ⟨gV, 0, none⟩) n c) vl rs) {i : Nat} (hi : i < t.value.length) (x : Rat) :
    Ex w0 ((w.setCell ⟨gV, i * 2, none⟩ (.int .i64 x.num)).setCell ⟨gV, i * 2 + 1, none⟩ (.int .i64 x.den)) base tb vars { t with value := t.value.set i x } vb vr (.slice (some ⟨gV, 0, none⟩) n c) vl rs :=
  ⟨h.le, h.tab.setV hi x, below_set2 h.below (by obtain ⟨_, _, hle⟩ := own_blk_ty h.tab.value (g := gV) rfl; exact hle), h.old1, h.old2⟩
theorem Ex.setR {g n c j : Nat} (h : Ex w0 w base tb vars t vb vr vv vl rs) (hj : j < rs.length) (er : rs[j] = .slice (some ⟨g, 0, none⟩) n c) {i : Nat} (hi : i < (rdR t.rows j).length) (x : Rat) :
    Ex w0 ((w.setCell ⟨g, i * 2, none⟩ (.int .i64 x.num)).setCell ⟨g, i * 2 + 1, none⟩ (.int .i64 x.den)) base tb vars { t with rows := t.rows.set j ((rdR t.rows j).set i x) } vb vr vv vl rs :=
  ⟨h.le, h.tab.setR hj er hi x, below_set2 h.below (by obtain ⟨_, _, hle⟩ := own_blk_ty (h.tab.row j hj) (g := g) (by rw [er]; rfl); exact hle), h.old1, h.old2⟩
end
/-- A box of the call's own, kept. -/
def Bx (w0 w : World) (g : Nat) (x : Rat) : Prop := w.heap[g]? = some (ratB x) ∧ w0.heap.size ≤ g
theorem Bx.keep {w0 w w1 : World} {g : Nat} {x : Rat} (h : Bx w0 w g x) (hb : Below w.heap.size w w1) : Bx w0 w1 g x := ⟨blk_below h.1 hb, h.2⟩
theorem Bx.set {w0 w : World} {g : Nat} {x : Rat} (h : Bx w0 w g x) {gV i k : Nat} (hg : gV < w0.heap.size) (u v : Value) : Bx w0 ((w.setCell ⟨gV, i, none⟩ u).setCell ⟨gV, k, none⟩ v) g x :=
  ⟨blk_far (blk_far h.1 (p := ⟨gV, i, none⟩) (by have := h.2; show g ≠ gV; omega) u) (p := ⟨gV, k, none⟩) (by have := h.2; show g ≠ gV; omega) v, h.2⟩
theorem Bx.far {w0 w : World} {g : Nat} {x : Rat} (h : Bx w0 w g x) {gV i k : Nat} (hg : g ≠ gV) (u v : Value) : Bx w0 ((w.setCell ⟨gV, i, none⟩ u).setCell ⟨gV, k, none⟩ v) g x :=
  ⟨blk_far (blk_far h.1 (p := ⟨gV, i, none⟩) hg u) (p := ⟨gV, k, none⟩) hg v, h.2⟩
theorem Bx.cells {w0 w : World} {g : Nat} {x : Rat} (h : Bx w0 w g x) : w.cell? ⟨g, 0, none⟩ = some (.int .i64 x.num) ∧ w.cell? ⟨g, 1, none⟩ = some (.int .i64 x.den) := ⟨blk_cell h.1 0, blk_cell h.1 1⟩
theorem Bx.of_put {w0 w : World} {g : Nat} {x y : Value} {z : Rat} {ty : TypeId} (h : Hid (w.heap[g]? = some (.cells #[x, y] 29 (0, 0)) ∧ g < w.heap.size)) (hg : w0.heap.size ≤ g) :
    Bx w0 ((w.setCell ⟨g, 0, none⟩ (.int .i64 z.num)).setCell ⟨g, 1, none⟩ (.int .i64 z.den)) g z := ⟨blk_put (blk_put h.out.1 0 _ rfl) 1 _ rfl, hg⟩
theorem rowQ_cells {w : World} {base g n cap : Nat} {l : List Rat} (h : RowQ w base (.slice (some ⟨g, 0, none⟩) n cap) l) : ∀ j u, (flatQ l)[j]? = some u → w.cell? ⟨g, 0 + j, none⟩ = some u := by
  obtain ⟨hl, hv⟩ := h
  rcases hv with ⟨h1, _⟩ | ⟨g', cap', cur, e, hg, hb, hn, hm, hs, ht⟩
  · cases h1
  · injection e with e1 e2 e3
    injection e1 with e1
    injection e1 with e1
    subst e1
    intro j u hj
    have hjl : j < (flatQ l).length := (List.getElem?_eq_some_iff.1 hj).1
    rw [Nat.zero_add, cell_of_row w g _ cur _ (0, 0) hb]
    rw [← ht, List.getElem?_take] at hj
    split at hj
    · simpa using hj
    · cases hj
theorem sign_ne {x : Rat} (h : x ≠ 0) : ∃ s : Int, ((s = 0) = False) ∧ ∀ w, Calls Try.prog 47 #[rv x] w fun e w' => e = .returned (.int .i64 s) ∧ Below w.heap.size w w' := by
  by_cases hp : 0 < x
  · exact ⟨1, by simp, fun w => sign_pos hp w⟩
  · exact ⟨-1, by simp, fun w => sign_neg (by grind) w⟩
/-- The header of a row of rows. -/
theorem rowS_at {w : World} {base : Nat} {g n cap : Nat} {l : List Value} (h : RowS w base (.slice (some ⟨g, 0, none⟩) n cap) l) {i : Nat} (hi : i < l.length) : w.cell? ⟨g, i, none⟩ = some l[i] := by
  obtain ⟨g', cap', e, _, _, h4, _, _⟩ := one_at h hi
  injection e with e1 _ _
  injection e1 with e1
  injection e1 with e1
  subst e1
  exact h4
theorem rowN_in {w : World} {base : Nat} {g n cap : Nat} {l : List Nat} (h : RowN w base (.slice (some ⟨g, 0, none⟩) n cap) l) {i : Nat} (hi : i < l.length) : w.cell? ⟨g, i, none⟩ = some (.int .i64 (rdN l i : Int)) := by
  obtain ⟨g', cap', e, _, _, h4, _, _⟩ := rowN_rd h hi
  injection e with e1 _ _
  injection e1 with e1
  injection e1 with e1
  subst e1
  exact h4
theorem rdQ_drop {l pre : List Rat} {k : Nat} (hp : pre.length = k) (hk : k < l.length) : rdQ (pre ++ l.drop k) k = rdQ l k := by
  unfold rdQ
  rw [List.getD_eq_getElem?_getD, List.getD_eq_getElem?_getD, List.getElem?_append_right (by omega), hp, Nat.sub_self, List.getElem?_drop, Nat.add_zero]
theorem set_drop {α : Type} {l pre : List α} {k : Nat} (hp : pre.length = k) (hk : k < l.length) (x : α) : (pre ++ l.drop k).set k x = (pre ++ [x]) ++ l.drop (k + 1) := by
  subst hp
  rw [List.set_append_right _ _ (Nat.le_refl _), Nat.sub_self, List.drop_eq_getElem_cons hk, List.set_cons_zero, List.append_assoc]
  rfl
theorem same_drop {α : Type} {l pre : List α} {k : Nat} (hk : k < l.length) : pre ++ l.drop k = (pre ++ [l[k]]) ++ l.drop (k + 1) := by
  rw [List.drop_eq_getElem_cons hk, List.append_assoc]
  rfl
theorem len_drop {α : Type} {l pre : List α} {k : Nat} (hp : pre.length = k) (hk : k ≤ l.length) : (pre ++ l.drop k).length = l.length := by
  rw [List.length_append, List.length_drop, hp]; omega
theorem rdR_drop {l pre : List (List Rat)} {k : Nat} (hp : pre.length = k) (hk : k < l.length) : rdR (pre ++ l.drop k) k = rdR l k := by
  unfold rdR
  rw [List.getD_eq_getElem?_getD, List.getD_eq_getElem?_getD, List.getElem?_append_right (by omega), hp, Nat.sub_self, List.getElem?_drop, Nat.add_zero]
theorem Hd.put1 {W w : World} {base tb i k g n : Nat} {x y : Value} (h : Hd [(⟨tb, i, none⟩, x), (⟨tb, k, none⟩, y)] W base w) (hne : tb ≠ g) (hg : base ≤ g) (u : Value) : Hd [(⟨tb, i, none⟩, x), (⟨tb, k, none⟩, y)] W base (w.setCell ⟨g, n, none⟩ u) := by
  have hb := Below.heap_setCell w ⟨g, n, none⟩ u tb hne
  refine ⟨h.le, ⟨?_, ?_, trivial⟩, Below.setCell h.below hg _⟩
  · rw [World.cell?_of_block hb]; exact h.cells.1
  · rw [World.cell?_of_block hb]; exact h.cells.2.1
theorem Ex.setR' {w0 w : World} {base tb vars : Nat} {t : Tab} {vb vr vv vl : Value} {rs : List Value} {L : List (List Rat)} {X : List Rat} {g n c j : Nat} (h : Ex w0 w base tb vars { t with rows := L.set j X } vb vr vv vl rs) (hj : j < rs.length) (hL : L.length = rs.length) (er : rs[j] = .slice (some ⟨g, 0, none⟩) n c) {i : Nat} (hi : i < X.length) (x : Rat) :
    Ex w0 ((w.setCell ⟨g, i * 2, none⟩ (.int .i64 x.num)).setCell ⟨g, i * 2 + 1, none⟩ (.int .i64 x.den)) base tb vars { t with rows := L.set j (X.set i x) } vb vr vv vl rs := by
  have e : rdR (L.set j X) j = X := by rw [rdR_set (by omega), if_pos rfl]
  have h2 := h.setR hj er (i := i) (by show i < (rdR (L.set j X) j).length; rw [e]; exact hi) x
  change Ex w0 _ base tb vars { t with rows := (L.set j X).set j ((rdR (L.set j X) j).set i x) } vb vr vv vl rs at h2
  rw [e, List.set_set] at h2
  exact h2
theorem set_self {L : List (List Rat)} {j : Nat} (hj : j < L.length) : L.set j (rdR L j) = L := by
  rw [← rdR_get hj]; exact List.set_getElem_self hj
def ExEnd (w w' : World) (base tb vars : Nat) (o : Option Tab) (vb vr vv vl : Value) (rs : List Value) (a : Nat) (e : Ending) : Prop := match o with
  | some t => e = .returned (.tuple #[]) ∧ ∃ vn, TabAt w' base tb vars t vb vr vv vl (rs.set a vn)
  | none => e = .panicked LargeL

end Go.Proofs.Ytdkbnbebioflaaa.Ln
