/- The table in memory, made: what is appended. -/
import Derived.Test.YtdkbnbebioflaaaLnV
namespace Go.Proofs
theorem Z250 {p : Prop} (h : p := by rw [h'] at e; cases e; have := blk_lt h.box; omega) : p := h
end Go.Proofs
namespace Go.Proofs.Ytdkbnbebioflaaa.Ln
open Go.RowKit Go.Proofs.Ytdkbnbebioflaaa.Num Go.Proofs.Ytdkbnbebioflaaa.Given Go.Proofs.Ytdkbnbebioflaaa.Lin Go.Proofs.YtdkbnbebioflaaaW.PrintWords
set_option linter.unusedVariables false
set_option linter.unusedSimpArgs false

section
variable {w w1 : World} {base tb vars : Nat} {t : Tab} {vb vr vv vl : Value} {rs : List Value}
theorem own_keep2 {e : TypeId} {size n : Nat} {v : Value} {xs : List Value} (h : w.ownsRow base e size v n xs) {row : Option Nat} (hg : w.grownBy w1 row) (hne : ∀ k, v.ownBlock = some k → row ≠ some k) (hx : v.ownBlock ≠ some tb) (i : Nat) (u : Value) : (w1.setCell ⟨tb, i, none⟩ u).ownsRow base e size v n xs := by
  refine own_far (own_other h hg ?_) hx u
  cases hv : v.ownBlock with
  | none => exact .inl rfl
  | some k => exact .inr (fun e => hne k hv e.symm)
theorem fresh_unlike {v v1 v' : Value} {e : TypeId} {size n : Nat} {xs : List Value} (h' : w.ownsRow base e size v' n xs) (hu : Unlike v v') (hat : v1.ownBlock = v.ownBlock ∨ ∃ b, v1.ownBlock = some b ∧ w.heap.size ≤ b) : Unlike v1 v' := by
  intro k hk e'
  rcases hat with h | ⟨b, h, hle⟩
  · rw [h] at hk; exact hu k hk e'
  · rw [h] at hk
    cases hk
    obtain ⟨c, hb, _⟩ := own_blk_ty h' e'
    have := blk_lt hb
    omega
theorem TabAt.box_put (h : TabAt w base tb vars t vb vr vv vl rs) {row : Option Nat} (hg : w.grownBy w1 row) (hne : row ≠ some tb) (i : Nat) (u : Value) {cs : Array Value} (hcs : (#[.int .i64 vars, vb, vr, vv, vl] : Array Value).setIfInBounds i u = cs) : (w1.setCell ⟨tb, i, none⟩ u).heap[tb]? = some (.cells cs 69 (0, 0)) :=
  blk_put ((hg.block tb (blk_lt h.box) (fun e => hne e.symm)).trans h.box) i u hcs
theorem TabAt.notb (h : TabAt w base tb vars t vb vr vv vl rs) {e : TypeId} {size n : Nat} {v : Value} {xs : List Value} (ho : w.ownsRow base e size v n xs) (he : 69 ≠ e) : v.ownBlock ≠ some tb := fun e' => h.tb_ne ho he e' rfl
theorem TabAt.appV (h : TabAt w base tb vars t vb vr vv vl rs) {v1 : Value} {l : List Rat} (hg : w.grownBy w1 vv.ownBlock) (ho : RowQ w1 base v1 l) (hat : v1.ownBlock = vv.ownBlock ∨ ∃ b, v1.ownBlock = some b ∧ w.heap.size ≤ b) :
    TabAt (w1.setCell ⟨tb, 3, none⟩ v1) base tb vars { t with value := l } vb vr v1 vl rs := by
  obtain ⟨u1, u2, u3, u4⟩ := h.unl
  have htb1 : v1.ownBlock ≠ some tb := by
    intro e
    rcases hat with h' | ⟨b, h', hle⟩
    · exact h.notb h.value (by decide) (by rw [← h']; exact e)
    · exact Z250
  refine ⟨h.box_put hg (h.notb h.value (by decide)) 3 v1 rfl, own_keep2 h.basic hg (fun k hk e => own_ne_ty h.basic h.value (by decide) e hk) (h.notb h.basic (by decide)) _ _, own_keep2 h.rows hg (fun k hk e => own_ne_ty h.rows h.value (by decide) e hk) (h.notb h.rows (by decide)) _ _, h.len, fun j hj => own_keep2 (h.row j hj) hg (fun k hk e => u2 j hj k e hk) (h.notb (h.row j hj) (by decide)) _ _, own_far ho htb1 _, own_keep2 h.limits hg (fun k hk e => u1 k e hk) (h.notb h.limits (by decide)) _ _, ?_⟩
  refine List.pairwise_cons.2 ⟨fun y hy => ?_, (List.pairwise_cons.1 h.apart).2⟩
  rcases List.mem_cons.1 hy with rfl | hy
  · exact fresh_unlike h.limits u1 hat
  · obtain ⟨j, hj, rfl⟩ := List.getElem_of_mem hy
    exact fresh_unlike (h.row j hj) (u2 j hj) hat
theorem TabAt.appL (h : TabAt w base tb vars t vb vr vv vl rs) {v1 : Value} {l : List Rat} (hg : w.grownBy w1 vl.ownBlock) (ho : RowQ w1 base v1 l) (hat : v1.ownBlock = vl.ownBlock ∨ ∃ b, v1.ownBlock = some b ∧ w.heap.size ≤ b) :
    TabAt (w1.setCell ⟨tb, 4, none⟩ v1) base tb vars { t with limits := l } vb vr vv v1 rs := by
  obtain ⟨u1, u2, u3, u4⟩ := h.unl
  have htb1 : v1.ownBlock ≠ some tb := by
    intro e
    rcases hat with h' | ⟨b, h', hle⟩
    · exact h.notb h.limits (by decide) (by rw [← h']; exact e)
    · exact Z250
  refine ⟨h.box_put hg (h.notb h.limits (by decide)) 4 v1 rfl, own_keep2 h.basic hg (fun k hk e => own_ne_ty h.basic h.limits (by decide) e hk) (h.notb h.basic (by decide)) _ _, own_keep2 h.rows hg (fun k hk e => own_ne_ty h.rows h.limits (by decide) e hk) (h.notb h.rows (by decide)) _ _, h.len, fun j hj => own_keep2 (h.row j hj) hg (fun k hk e => u3 j hj k e hk) (h.notb (h.row j hj) (by decide)) _ _, own_keep2 h.value hg (fun k hk e => u1 k hk e) (h.notb h.value (by decide)) _ _, own_far ho htb1 _, ?_⟩
  have hp := List.pairwise_cons.1 h.apart
  refine List.pairwise_cons.2 ⟨fun y hy => ?_, List.pairwise_cons.2 ⟨fun y hy => ?_, (List.pairwise_cons.1 hp.2).2⟩⟩
  · rcases List.mem_cons.1 hy with rfl | hy
    · exact unlike_symm (fresh_unlike h.value (unlike_symm u1) hat)
    · obtain ⟨j, hj, rfl⟩ := List.getElem_of_mem hy
      exact u2 j hj
  · obtain ⟨j, hj, rfl⟩ := List.getElem_of_mem hy
    exact fresh_unlike (h.row j hj) (u3 j hj) hat
theorem TabAt.appB (h : TabAt w base tb vars t vb vr vv vl rs) {v1 : Value} {l : List Nat} (hg : w.grownBy w1 vb.ownBlock) (ho : RowN w1 base v1 l) (hat : v1.ownBlock = vb.ownBlock ∨ ∃ b, v1.ownBlock = some b ∧ w.heap.size ≤ b) :
    TabAt (w1.setCell ⟨tb, 1, none⟩ v1) base tb vars { t with basic := l } v1 vr vv vl rs := by
  have htb1 : v1.ownBlock ≠ some tb := by
    intro e
    rcases hat with h' | ⟨b, h', hle⟩
    · exact h.notb h.basic (by decide) (by rw [← h']; exact e)
    · exact Z250
  exact ⟨h.box_put hg (h.notb h.basic (by decide)) 1 v1 rfl, own_far ho htb1 _, own_keep2 h.rows hg (fun k hk e => own_ne_ty h.rows h.basic (by decide) e hk) (h.notb h.rows (by decide)) _ _, h.len, fun j hj => own_keep2 (h.row j hj) hg (fun k hk e => own_ne_ty (h.row j hj) h.basic (by decide) e hk) (h.notb (h.row j hj) (by decide)) _ _, own_keep2 h.value hg (fun k hk e => own_ne_ty h.value h.basic (by decide) e hk) (h.notb h.value (by decide)) _ _, own_keep2 h.limits hg (fun k hk e => own_ne_ty h.limits h.basic (by decide) e hk) (h.notb h.limits (by decide)) _ _, h.apart⟩
theorem TabAt.appS (h : TabAt w base tb vars t vb vr vv vl rs) {v1 x : Value} {nx : List Rat} (hx : RowQ w base x nx) (n1 : Unlike vv x) (n2 : Unlike vl x) (n3 : ∀ j (hj : j < rs.length), Unlike rs[j] x) (hg : w.grownBy w1 vr.ownBlock) (ho : RowS w1 base v1 (rs ++ [x])) (hat : v1.ownBlock = vr.ownBlock ∨ ∃ b, v1.ownBlock = some b ∧ w.heap.size ≤ b) :
    TabAt (w1.setCell ⟨tb, 2, none⟩ v1) base tb vars { t with rows := t.rows ++ [nx] } vb v1 vv vl (rs ++ [x]) := by
  have htb1 : v1.ownBlock ≠ some tb := by
    intro e
    rcases hat with h' | ⟨b, h', hle⟩
    · exact h.notb h.rows (by decide) (by rw [← h']; exact e)
    · exact Z250
  have kq : ∀ {v' : Value} {l : List Rat}, RowQ w base v' l → RowQ (w1.setCell ⟨tb, 2, none⟩ v1) base v' l := fun hq => own_keep2 hq hg (fun k hk e => own_ne_ty hq h.rows (by decide) e hk) (h.notb hq (by decide)) _ _
  refine ⟨h.box_put hg (h.notb h.rows (by decide)) 2 v1 rfl, own_keep2 h.basic hg (fun k hk e => own_ne_ty h.basic h.rows (by decide) e hk) (h.notb h.basic (by decide)) _ _, own_far ho htb1 _, by simp [h.len], fun j hj => ?_, kq h.value, kq h.limits, ?_⟩
  · by_cases hjl : j < rs.length
    · rw [List.getElem_append_left hjl]
      have e : rdR (t.rows ++ [nx]) j = rdR t.rows j := by
        unfold rdR
        rw [List.getD_eq_getElem?_getD, List.getD_eq_getElem?_getD, List.getElem?_append_left (by rw [← h.len]; exact hjl)]
      show RowQ _ _ _ (rdR (t.rows ++ [nx]) j)
      rw [e]
      exact kq (h.row j hjl)
    · have hj2 : j = rs.length := by simp at hj; omega
      subst hj2
      have e : rdR (t.rows ++ [nx]) rs.length = nx := by
        unfold rdR
        rw [List.getD_eq_getElem?_getD, List.getElem?_append_right (by rw [h.len]; exact Nat.le_refl _), h.len, Nat.sub_self]
        rfl
      show RowQ _ _ _ (rdR (t.rows ++ [nx]) rs.length)
      rw [e, List.getElem_append_right (Nat.le_refl _)]
      simpa using kq hx
  · have hp := List.pairwise_cons.1 h.apart
    have hp2 := List.pairwise_cons.1 hp.2
    refine List.pairwise_cons.2 ⟨fun y hy => ?_, List.pairwise_cons.2 ⟨fun y hy => ?_, List.pairwise_append.2 ⟨hp2.2, List.pairwise_singleton _ _, fun a ha b hb => ?_⟩⟩⟩
    · rcases List.mem_cons.1 hy with rfl | hy
      · exact hp.1 _ List.mem_cons_self
      · rcases List.mem_append.1 hy with hy | hy
        · exact hp.1 _ (List.mem_cons_of_mem _ hy)
        · rw [List.mem_singleton.1 hy]; exact n1
    · rcases List.mem_append.1 hy with hy | hy
      · exact hp2.1 _ hy
      · rw [List.mem_singleton.1 hy]; exact n2
    · rw [List.mem_singleton.1 hb]
      obtain ⟨j, hj, rfl⟩ := List.getElem_of_mem ha
      exact n3 j hj
end
/-- A table's box, new: nothing in it. -/
theorem TabAt.nil (w : World) (vars : Nat) : TabAt (w.alloc (.cells #[.int .i64 vars, .slice none 0 0, .slice none 0 0, .slice none 0 0, .slice none 0 0] 69 (0, 0))) w.heap.size w.heap.size vars ⟨[], [], [], []⟩ (.slice none 0 0) (.slice none 0 0) (.slice none 0 0) (.slice none 0 0) [] :=
  ⟨blk_new _ _, ⟨rfl, .inl ⟨rfl, rfl⟩⟩, ⟨rfl, .inl ⟨rfl, rfl⟩⟩, rfl, fun j hj => by simp at hj, ⟨rfl, .inl ⟨rfl, rfl⟩⟩, ⟨rfl, .inl ⟨rfl, rfl⟩⟩, by
    refine List.pairwise_cons.2 ⟨fun y hy => ?_, List.pairwise_cons.2 ⟨fun y hy => (by cases hy), List.Pairwise.nil⟩⟩
    intro k hk; cases hk⟩

end Go.Proofs.Ytdkbnbebioflaaa.Ln
