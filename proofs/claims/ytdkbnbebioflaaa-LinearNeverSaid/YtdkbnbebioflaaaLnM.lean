/- Rows of rats of the call's own: read, written. -/
import Derived.Test.YtdkbnbebioflaaaLnGiven
namespace Go.Proofs.Ytdkbnbebioflaaa.Ln
open Go.RowKit Go.Proofs.Ytdkbnbebioflaaa.Num Go.Proofs.Ytdkbnbebioflaaa.Given Go.Proofs.Ytdkbnbebioflaaa.Lin Go.Proofs.YtdkbnbebioflaaaW.PrintWords
set_option linter.unusedVariables false
set_option linter.unusedSimpArgs false

def flatQ : List Rat → List Value
  | [] => []
  | x :: l => .int .i64 x.num :: .int .i64 x.den :: flatQ l
theorem flatQ_len : ∀ l, (flatQ l).length = l.length * 2
  | [] => rfl
  | x :: l => by rw [flatQ, List.length_cons, List.length_cons, flatQ_len l, List.length_cons]; omega
theorem flatQ_app : ∀ l m, flatQ (l ++ m) = flatQ l ++ flatQ m
  | [], m => rfl
  | x :: l, m => by rw [List.cons_append, flatQ, flatQ_app l m, flatQ]; rfl
theorem flatQ_get : ∀ {l : List Rat} {i : Nat} (h : i < l.length), (flatQ l)[i * 2]? = some (.int .i64 l[i].num) ∧ (flatQ l)[i * 2 + 1]? = some (.int .i64 l[i].den)
  | x :: l, 0, h => ⟨rfl, rfl⟩
  | x :: l, i + 1, h => by
    have ih := flatQ_get (l := l) (i := i) (by simpa using h)
    rw [show (i + 1) * 2 = i * 2 + 1 + 1 by omega, flatQ]
    exact ih
theorem flatQ_set : ∀ (l : List Rat) (i : Nat) (x : Rat), flatQ (l.set i x) = ((flatQ l).set (i * 2) (.int .i64 x.num)).set (i * 2 + 1) (.int .i64 x.den)
  | [], i, x => by simp [flatQ]
  | y :: l, 0, x => rfl
  | y :: l, i + 1, x => by
    rw [List.set_cons_succ, flatQ, flatQ_set l i x, show (i + 1) * 2 = i * 2 + 1 + 1 by omega, flatQ]
    rfl
/-- A row of rats of the call's own. -/
def RowQ (w : World) (base : Nat) (v : Value) (l : List Rat) : Prop := w.ownsRow base 29 2 v l.length (flatQ l)
theorem rowQ_at {w : World} {base : Nat} {v : Value} {l : List Rat} (h : RowQ w base v l) {i : Nat} (hi : i < l.length) :
    ∃ g cap, v = .slice (some ⟨g, 0, none⟩) l.length cap ∧ base ≤ g ∧ l.length ≤ cap ∧ w.cell? ⟨g, i * 2, none⟩ = some (.int .i64 l[i].num) ∧ w.cell? ⟨g, i * 2 + 1, none⟩ = some (.int .i64 l[i].den) ∧ ∀ k, w.frozen? ⟨g, k, none⟩ = false := by
  obtain ⟨hl, hv⟩ := h
  rcases hv with ⟨_, h0⟩ | ⟨g, cap, cur, rfl, hg, hb, hn, hm, hs, ht⟩
  · omega
  · obtain ⟨a, b⟩ := flatQ_get hi
    rw [← ht, List.getElem?_take] at a b
    refine ⟨g, cap, rfl, hg, hn, ?_, ?_, fun k => by simp [World.frozen?, hb]⟩
    · split at a
      · rw [cell_of_row w g _ cur _ (0, 0) hb]; simpa using a
      · cases a
    · split at b
      · rw [cell_of_row w g _ cur _ (0, 0) hb]; simpa using b
      · cases b
theorem rowQ_set {w : World} {base g n cap : Nat} {l : List Rat} (h : RowQ w base (.slice (some ⟨g, 0, none⟩) n cap) l) (i : Nat) (hi : i < l.length) (x : Rat) :
    RowQ ((w.setCell ⟨g, i * 2, none⟩ (.int .i64 x.num)).setCell ⟨g, i * 2 + 1, none⟩ (.int .i64 x.den)) base (.slice (some ⟨g, 0, none⟩) n cap) (l.set i x) := by
  obtain ⟨hl, hv⟩ := h
  refine ⟨by rw [flatQ_len], ?_⟩
  rcases hv with ⟨h1, _⟩ | ⟨g', cap', cur, e, hg, hb, hn, hm, hs, ht⟩
  · cases h1
  · injection e with e1 e2 e3
    injection e1 with e1
    injection e1 with e1
    subst e1
    subst e2
    subst e3
    refine .inr ⟨g, cap, (cur.setIfInBounds (i * 2) (.int .i64 x.num)).setIfInBounds (i * 2 + 1) (.int .i64 x.den), by rw [List.length_set], hg, blk_put (blk_put hb _ _ rfl) _ _ rfl, by rw [List.length_set]; exact hn, hm, by simpa using hs, ?_⟩
    rw [List.length_set, flatQ_set, ← ht]
    simp only [Array.toList_setIfInBounds, List.take_set]

end Go.Proofs.Ytdkbnbebioflaaa.Ln
