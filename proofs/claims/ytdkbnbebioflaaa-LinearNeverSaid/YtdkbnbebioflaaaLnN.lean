/- The table in memory. -/
import Derived.Test.YtdkbnbebioflaaaLnM
namespace Go.Proofs.Ytdkbnbebioflaaa.Ln
open Go.RowKit Go.Proofs.Ytdkbnbebioflaaa.Num Go.Proofs.Ytdkbnbebioflaaa.Given Go.Proofs.Ytdkbnbebioflaaa.Lin Go.Proofs.YtdkbnbebioflaaaW.PrintWords
set_option linter.unusedVariables false
set_option linter.unusedSimpArgs false

/-- Rows of whole numbers of the call's own. -/
def natv (l : List Nat) : List Value := l.map fun n : Nat => Value.int .i64 (n : Int)
def RowN (w : World) (base : Nat) (v : Value) (l : List Nat) : Prop := w.ownsRow base 3 1 v l.length (natv l)
/-- Rows of rows. -/
def RowS (w : World) (base : Nat) (v : Value) (l : List Value) : Prop := w.ownsRow base 27 1 v l.length l
theorem one_at {w : World} {base : Nat} {ty : TypeId} {v : Value} {l : List Value} (h : w.ownsRow base ty 1 v l.length l) {i : Nat} (hi : i < l.length) :
    ∃ g cap, v = .slice (some ⟨g, 0, none⟩) l.length cap ∧ base ≤ g ∧ l.length ≤ cap ∧ w.cell? ⟨g, i, none⟩ = some l[i] ∧ (∀ k, w.frozen? ⟨g, k, none⟩ = false) ∧ ∃ cur, w.heap[g]? = some (.cells cur ty (0, 0)) := by
  obtain ⟨hl, hv⟩ := h
  rcases hv with ⟨_, h0⟩ | ⟨g, cap, cur, rfl, hg, hb, hn, hm, hs, ht⟩
  · omega
  · refine ⟨g, cap, rfl, hg, hn, ?_, fun k => by simp [World.frozen?, hb], cur, hb⟩
    have a : (List.take (l.length * 1) cur.toList)[i]? = some l[i] := by rw [ht]; exact List.getElem?_eq_getElem hi
    rw [List.getElem?_take_of_lt (by omega)] at a
    rw [cell_of_row w g _ cur _ (0, 0) hb]
    simpa using a
theorem one_set {w : World} {base g n cap : Nat} {ty : TypeId} {l : List Value} (h : w.ownsRow base ty 1 (.slice (some ⟨g, 0, none⟩) n cap) l.length l) (i : Nat) (x : Value) :
    (w.setCell ⟨g, i, none⟩ x).ownsRow base ty 1 (.slice (some ⟨g, 0, none⟩) n cap) (l.set i x).length (l.set i x) := by
  obtain ⟨hl, hv⟩ := h
  refine ⟨by simp, ?_⟩
  rcases hv with ⟨h1, _⟩ | ⟨g', cap', cur, e, hg, hb, hn, hm, hs, ht⟩
  · cases h1
  · injection e with e1 e2 e3
    injection e1 with e1
    injection e1 with e1
    subst e1
    subst e2
    subst e3
    refine .inr ⟨g, cap, cur.setIfInBounds i x, by rw [List.length_set], hg, blk_put hb _ _ rfl, by rw [List.length_set]; exact hn, hm, by simpa using hs, ?_⟩
    rw [List.length_set]
    conv => rhs; rw [← ht]
    simp only [Array.toList_setIfInBounds, List.take_set]
theorem rowN_at {w : World} {base : Nat} {v : Value} {l : List Nat} (h : RowN w base v l) {i : Nat} (hi : i < l.length) :
    ∃ g cap, v = .slice (some ⟨g, 0, none⟩) l.length cap ∧ base ≤ g ∧ l.length ≤ cap ∧ w.cell? ⟨g, i, none⟩ = some (.int .i64 (l[i] : Int)) ∧ (∀ k, w.frozen? ⟨g, k, none⟩ = false) ∧ ∃ cur, w.heap[g]? = some (.cells cur 3 (0, 0)) := by
  have e : l.length = (natv l).length := by simp [natv]
  unfold RowN at h
  rw [e] at h
  obtain ⟨g, cap, h1, h2, h3, h4, h5, h6⟩ := one_at h (show i < (natv l).length by omega)
  rw [← e] at h1 h3
  exact ⟨g, cap, h1, h2, h3, by simpa [natv] using h4, h5, h6⟩
theorem rowN_set {w : World} {base g n cap : Nat} {l : List Nat} (h : RowN w base (.slice (some ⟨g, 0, none⟩) n cap) l) (i x : Nat) :
    RowN (w.setCell ⟨g, i, none⟩ (.int .i64 (x : Int))) base (.slice (some ⟨g, 0, none⟩) n cap) (l.set i x) := by
  have e : l.length = (natv l).length := by simp [natv]
  unfold RowN at h ⊢
  rw [e] at h
  have h2 := one_set h i (.int .i64 (x : Int))
  rw [List.length_set, ← e] at h2
  rw [List.length_set]
  have e2 : natv (l.set i x) = (natv l).set i (.int .i64 (x : Int)) := by simp [natv, List.map_set]
  rw [e2]
  exact h2

/-- Unlike blocks (or none). -/
def Unlike (a b : Value) : Prop := ∀ k, a.ownBlock = some k → b.ownBlock ≠ some k
/-- linear's table, at tb. -/
structure TabAt (w : World) (base tb vars : Nat) (t : Tab) (vb vr vv vl : Value) (rs : List Value) : Prop where
  box : w.heap[tb]? = some (.cells #[.int .i64 vars, vb, vr, vv, vl] 69 (0, 0))
  basic : RowN w base vb t.basic
  rows : RowS w base vr rs
  len : rs.length = t.rows.length
  row : ∀ j (h : j < rs.length), RowQ w base rs[j] (rdR t.rows j)
  value : RowQ w base vv t.value
  limits : RowQ w base vl t.limits
  apart : List.Pairwise Unlike (vv :: vl :: rs)
theorem RowQ.below {w w1 : World} {base : Nat} {v : Value} {l : List Rat} (h : RowQ w base v l) (hb : Below w.heap.size w w1) : RowQ w1 base v l := pw_own_below h hb
theorem RowN.below {w w1 : World} {base : Nat} {v : Value} {l : List Nat} (h : RowN w base v l) (hb : Below w.heap.size w w1) : RowN w1 base v l := pw_own_below h hb
theorem RowS.below {w w1 : World} {base : Nat} {v : Value} {l : List Value} (h : RowS w base v l) (hb : Below w.heap.size w w1) : RowS w1 base v l := pw_own_below h hb
theorem TabAt.below {w w1 : World} {base tb vars : Nat} {t : Tab} {vb vr vv vl : Value} {rs : List Value} (h : TabAt w base tb vars t vb vr vv vl rs) (hb : Below w.heap.size w w1) : TabAt w1 base tb vars t vb vr vv vl rs :=
  ⟨blk_below h.box hb, h.basic.below hb, h.rows.below hb, h.len, fun j hj => (h.row j hj).below hb, h.value.below hb, h.limits.below hb, h.apart⟩
/-- A table whose numbers fit, and whose places are places. -/
structure WfT (vars : Nat) (t : Tab) : Prop where
  vl : t.value.length = vars + t.limits.length
  bl : t.basic.length = t.limits.length
  rl : t.rows.length = t.limits.length
  cl : ∀ j, j < t.rows.length → (rdR t.rows j).length = t.value.length
  bas : ∀ j, j < t.basic.length → rdN t.basic j < t.value.length
  fv : ∀ j, Fit (rdQ t.value j)
  fl : ∀ j, Fit (rdQ t.limits j)
  fr : ∀ i j, Fit (rdQ (rdR t.rows i) j)
  max : t.value.length ≤ 4096
theorem rdQ_get {l : List Rat} {i : Nat} (h : i < l.length) : l[i] = rdQ l i := by simp [rdQ, List.getElem?_eq_getElem h]
theorem rdN_get {l : List Nat} {i : Nat} (h : i < l.length) : l[i] = rdN l i := by simp [rdN, List.getElem?_eq_getElem h]
theorem rdR_get {l : List (List Rat)} {i : Nat} (h : i < l.length) : l[i] = rdR l i := by simp [rdR, List.getElem?_eq_getElem h]

end Go.Proofs.Ytdkbnbebioflaaa.Ln
