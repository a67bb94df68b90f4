/- What a walk through a region of open order holds on to: cells of a world, and what lies below; rows of whole numbers, rows of rows. -/
import Derived.Test.YtdkbnbebioflaaaLnN
import Derived.Test.YtdkbnbebioflaaaTl
namespace Go.Proofs.Ytdkbnbebioflaaa.Ln
open Go.RowKit Go.Proofs.Ytdkbnbebioflaaa.Num Go.Proofs.Ytdkbnbebioflaaa.Given Go.Proofs.Ytdkbnbebioflaaa.Lin Go.Proofs.YtdkbnbebioflaaaW.PrintWords
set_option linter.unusedVariables false
set_option linter.unusedSimpArgs false

theorem wrapsub {a b : Nat} (h : b ≤ a) (k : a < 9223372036854775808) : wrap64 ((a : Int) - (b : Int)) = ((a - b : Nat) : Int) := by unfold wrap64; omega
/-- Cells that hold what is said. -/
def Cells : List (Addr × Value) → World → Prop
  | [], _ => True
  | (a, v) :: l, w => w.cell? a = some v ∧ Cells l w
theorem Cells.keep {w w1 : World} (hb : Below w.heap.size w w1) : ∀ {l : List (Addr × Value)}, Cells l w → Cells l w1
  | [], h => h
  | (a, v) :: l, h => ⟨kcell hb h.1, Cells.keep hb h.2⟩
/-- Cells, and what lies below base, since W. -/
structure Hd (l : List (Addr × Value)) (W : World) (base : Nat) (w : World) : Prop where
  le : base ≤ W.heap.size
  cells : Cells l w
  below : Below base W w
theorem Hd.size {l : List (Addr × Value)} {W w : World} {base : Nat} (h : Hd l W base w) : base ≤ w.heap.size := Nat.le_trans h.le h.below.size
theorem Hd.keep {l : List (Addr × Value)} {W w w1 : World} {base : Nat} (h : Hd l W base w) (hb : Below w.heap.size w w1) : Hd l W base w1 :=
  ⟨h.le, h.cells.keep hb, h.below.trans (hb.mono h.size)⟩
theorem Hd.drew {l : List (Addr × Value)} {W w : World} {base : Nat} (h : Hd l W base w) : Hd l W base w.drew := ⟨h.le, h.cells.keep ((Below.refl _ _).drew), h.below.drew⟩

/-- A new cell, at an address that is a letter. -/
theorem al_new {P : Program} {o : Oper} {ops : Array Oper} {a : Act} {w : World} {K : Act → World → Prop} {Q : Exit → Act → World → Prop} (ob : Obj)
    (hw : Region.wanted o (yielded ops a.tmps) = true)
    (hrun : ∀ w : World, (execOp a.eval o).run P w = .ok (.value (.pointer (some ⟨w.heap.size, 0, none⟩))) (w.alloc ob))
    (h : ∀ (g : Nat) (w2 : World), g = w.heap.size → Below w.heap.size w w2 → Hid (w2.heap[g]? = some ob ∧ g < w2.heap.size) → K (a.put o.dst (.pointer (some ⟨g, 0, none⟩))) w2) :
    if Region.wanted o (yielded ops a.tmps) = true then Oper.wp P o a w K Q else K (a.put o.dst undef) w := by
  rw [if_pos hw]
  unfold Oper.wp
  rw [hrun, Oper.upon_value]
  exact h _ _ rfl ((Below.refl _ _).alloc (Nat.le_refl _) _) (Lib.hid ⟨blk_new _ _, by simp⟩)

theorem hp_keep {w w2 : World} {g : Nat} {o : Obj} (h : Hid (w.heap[g]? = some o ∧ g < w.heap.size)) (hb : Below w.heap.size w w2) : Hid (w2.heap[g]? = some o ∧ g < w2.heap.size) :=
  Lib.hid ⟨blk_below h.out.1 hb, Nat.lt_of_lt_of_le h.out.2 hb.size⟩
theorem box2 {w : World} {g : Nat} {x y : Value} {ty : TypeId} (h : Hid (w.heap[g]? = some (.cells #[x, y] ty (0, 0)) ∧ g < w.heap.size)) :
    w.cell? ⟨g, 0, none⟩ = some x ∧ w.cell? ⟨g, 1, none⟩ = some y ∧ w.frozen? ⟨g, 0, none⟩ = false ∧ w.frozen? ⟨g, 1, none⟩ = false := ⟨blk_cell h.out.1 0, blk_cell h.out.1 1, blk_frozen h.out.1 0, blk_frozen h.out.1 1⟩
/-- A number of a row of rats. -/
theorem rowQ_rd {w : World} {base : Nat} {v : Value} {l : List Rat} (h : RowQ w base v l) {i : Nat} (hi : i < l.length) :
    ∃ g cap, v = .slice (some ⟨g, 0, none⟩) l.length cap ∧ base ≤ g ∧ l.length ≤ cap ∧ w.cell? ⟨g, i * 2, none⟩ = some (.int .i64 (rdQ l i).num) ∧ w.cell? ⟨g, i * 2 + 1, none⟩ = some (.int .i64 (rdQ l i).den) ∧ ∀ k, w.frozen? ⟨g, k, none⟩ = false := by
  rw [← rdQ_get hi]; exact rowQ_at h hi
theorem rowN_rd {w : World} {base : Nat} {v : Value} {l : List Nat} (h : RowN w base v l) {i : Nat} (hi : i < l.length) :
    ∃ g cap, v = .slice (some ⟨g, 0, none⟩) l.length cap ∧ base ≤ g ∧ l.length ≤ cap ∧ w.cell? ⟨g, i, none⟩ = some (.int .i64 (rdN l i : Int)) ∧ (∀ k, w.frozen? ⟨g, k, none⟩ = false) ∧ ∃ cur, w.heap[g]? = some (.cells cur 3 (0, 0)) := by
  rw [← rdN_get hi]; exact rowN_at h hi
theorem rowQ_in {w : World} {base g n cap : Nat} {l : List Rat} (h : RowQ w base (.slice (some ⟨g, 0, none⟩) n cap) l) {i : Nat} (hi : i < l.length) :
    w.cell? ⟨g, i * 2, none⟩ = some (.int .i64 (rdQ l i).num) ∧ w.cell? ⟨g, i * 2 + 1, none⟩ = some (.int .i64 (rdQ l i).den) ∧ w.frozen? ⟨g, i * 2, none⟩ = false ∧ w.frozen? ⟨g, i * 2 + 1, none⟩ = false ∧ base ≤ g ∧ n = l.length := by
  obtain ⟨g', cap', e, h1, _, h2, h3, h4⟩ := rowQ_rd h hi
  injection e with e1 e2 e3
  injection e1 with e1
  injection e1 with e1
  subst e1
  exact ⟨h2, h3, h4 _, h4 _, h1, e2⟩
theorem new2 (w : World) (x y : Value) (ty : TypeId) : (w.alloc (.cells #[x, y] ty (0, 0))).cell? ⟨w.heap.size, 0, none⟩ = some x ∧ (w.alloc (.cells #[x, y] ty (0, 0))).cell? ⟨w.heap.size, 1, none⟩ = some y := ⟨blk_cell (blk_new _ _) 0, blk_cell (blk_new _ _) 1⟩

end Go.Proofs.Ytdkbnbebioflaaa.Ln
