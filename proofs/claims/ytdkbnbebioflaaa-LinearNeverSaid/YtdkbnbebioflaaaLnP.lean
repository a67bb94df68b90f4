/- linear's room. -/
import Derived.Test.YtdkbnbebioflaaaTl
import Derived.Test.YtdkbnbebioflaaaLnO
namespace Go.Proofs
theorem Z1s0 {p : Prop} (h : p := by decide +kernel) : p := h
theorem Z1s1 {p : Prop} (h : p := by (intro w_ hSw; have hSw := hSw.cells; simp only [Cells] at hSw; go_simp; all_goals (with_reducible rfl); done)) : p := h
end Go.Proofs
namespace Go.Proofs.Ytdkbnbebioflaaa.Ln
open Go.RowKit Go.Proofs.Ytdkbnbebioflaaa.Num Go.Proofs.Ytdkbnbebioflaaa.Given Go.Proofs.Ytdkbnbebioflaaa.Lin Go.Proofs.YtdkbnbebioflaaaW.PrintWords
set_option linter.unusedVariables false
set_option linter.unusedSimpArgs false

def RatEnd (o : Option Rat) (e : Ending) : Prop := match o with
  | some x => e = .returned (rv x)
  | none => e = .panicked LargeL

set_option maxHeartbeats 8000000 in
set_option maxRecDepth 100000 in
theorem room_any (w : World) (base tb vars v : Nat) (t : Tab) (vb vr vv vl : Value) (rs : List Value) (hT : TabAt w base tb vars t vb vr vv vl rs) (hW : WfT vars t) (h0 : vars ≤ v) (h1 : v < t.value.length) :
    Calls Try.prog 59 #[.pointer (some ⟨tb, 0, none⟩), .int .i64 v] w fun e w' => RatEnd (okQ (rdQ t.limits (v - vars) - rdQ t.value v)) e ∧ Below w.heap.size w w' := by
  have h2 : v - vars < t.limits.length := by have := hW.vl; omega
  have hm := hW.max
  obtain ⟨g1, c1, rfl, _, _, x0, x1, _⟩ := rowQ_rd hT.value h1
  obtain ⟨g2, c2, rfl, _, _, y0, y1, _⟩ := rowQ_rd hT.limits h2
  have b0 : w.cell? ⟨tb, 0, none⟩ = some (.int .i64 vars) := blk_cell hT.box 0
  have b3 : w.cell? ⟨tb, 3, none⟩ = some (.slice (some ⟨g1, 0, none⟩) t.value.length c1) := blk_cell hT.box 3
  have b4 : w.cell? ⟨tb, 4, none⟩ = some (.slice (some ⟨g2, 0, none⟩) t.limits.length c2) := blk_cell hT.box 4
  have fx := hW.fv v
  have fy := hW.fl (v - vars)
  generalize rdQ t.value v = x at *
  generalize rdQ t.limits (v - vars) = y at *
  have ew := wrapsub h0 (show v < 9223372036854775808 by omega)
  have ew2 : IntKind.i64.wrap ((v : Int) - (vars : Int)) = ((v - vars : Nat) : Int) := by rw [IntKind.wrap_i64]; unfold wrap64 at ew; exact ew
  have HC := Lib.hid (show Cells [(⟨tb, 0, none⟩, .int .i64 vars), (⟨tb, 3, none⟩, .slice (some ⟨g1, 0, none⟩) t.value.length c1), (⟨tb, 4, none⟩, .slice (some ⟨g2, 0, none⟩) t.limits.length c2), (⟨g1, v * 2, none⟩, .int .i64 x.num), (⟨g1, v * 2 + 1, none⟩, .int .i64 x.den), (⟨g2, (v - vars) * 2, none⟩, .int .i64 y.num), (⟨g2, (v - vars) * 2 + 1, none⟩, .int .i64 y.den)] w from ⟨b0, b3, b4, x0, x1, y0, y1, trivial⟩)
  clear hT hW b0 b3 b4 x0 x1 y0 y1 hm h0
  by_cases hf : Fit (y - x)
  · rw [okQ_fit hf]
    go_enter Try.func59, Try.ntmps59
    go_wp2_with fail
    have hb0 : Below w.heap.size w (w.alloc (.cells #[.int .i64 0, .int .i64 0] 29)).drew := ((Below.refl _ _).alloc (Nat.le_refl _) _).drew
    have HP := Lib.hid (⟨blk_new w _, by simp⟩ : (w.alloc (.cells #[.int .i64 0, .int .i64 0] 29)).drew.heap[w.heap.size]? = some (.cells #[.int .i64 0, .int .i64 0] 29 (0, 0)) ∧ w.heap.size < (w.alloc (.cells #[.int .i64 0, .int .i64 0] 29)).drew.heap.size)
    refine wp_region_L 23 (Hd _ w w.heap.size) (by kernel_rfl) (⟨Nat.le_refl _, HC.out.keep hb0, hb0⟩) (fun hHeld => ?_)
    refine tl0 ?_ Z1s0 (by rfl) (fun _ _ _ => id) ?_ (by assumption) ?_; rotate_left 1; (focus exact Z1s1); focus try simp only [Act.put, List.setIfInBounds_toArray, List.set_cons_zero, List.set_cons_succ]
    refine tl1 ?_ Z1s0 (by rfl) (fun _ _ _ => id) ?_ (by assumption) ?_; rotate_left 1; (focus exact Z1s1); focus try simp only [Act.put, List.setIfInBounds_toArray, List.set_cons_zero, List.set_cons_succ]
    refine tl2 ?_ Z1s0 (by rfl) (fun _ _ _ => id) ?_ (by assumption) ?_; rotate_left 1; (focus exact Z1s1); focus try simp only [Act.put, List.setIfInBounds_toArray, List.set_cons_zero, List.set_cons_succ]
    refine tl3 ?_ Z1s0 (by rfl) (fun _ _ _ => id) ?_ (by assumption) ?_; rotate_left 1; (focus exact Z1s1); focus try simp only [Act.put, List.setIfInBounds_toArray, List.set_cons_zero, List.set_cons_succ]
    refine tl4 ?_ Z1s0 (by rfl) (fun _ _ _ => id) ?_ (by assumption) ?_; rotate_left 1; (focus exact Z1s1); focus try simp only [Act.put, List.setIfInBounds_toArray, List.set_cons_zero, List.set_cons_succ]
    refine tl5 ?_ Z1s0 (by rfl) (fun _ _ _ => id) ?_ (by assumption) ?_; rotate_left 1; (focus exact Z1s1); focus try simp only [Act.put, List.setIfInBounds_toArray, List.set_cons_zero, List.set_cons_succ]
    refine tl6 ?_ Z1s0 (by rfl) (fun _ _ _ => id) ?_ (by assumption) ?_; rotate_left 1; (focus exact Z1s1); focus try simp only [Act.put, List.setIfInBounds_toArray, List.set_cons_zero, List.set_cons_succ]
    refine tl7 ?_ Z1s0 (by rfl) (fun _ _ _ => id) ?_ (by assumption) ?_; rotate_left 1; (focus exact Z1s1); focus try simp only [Act.put, List.setIfInBounds_toArray, List.set_cons_zero, List.set_cons_succ]
    refine tl8 ?_ Z1s0 (by rfl) (fun _ _ _ => id) ?_ (by assumption) ?_; rotate_left 1; (focus exact Z1s1); focus try simp only [Act.put, List.setIfInBounds_toArray, List.set_cons_zero, List.set_cons_succ]
    refine tl9 ?_ Z1s0 (by rfl) (fun _ _ _ => id) ?_ (by assumption) ?_; rotate_left 1; (focus exact Z1s1); focus try simp only [Act.put, List.setIfInBounds_toArray, List.set_cons_zero, List.set_cons_succ]
    refine tl10 ?_ Z1s0 (by rfl) (fun _ _ _ => id) ?_ (by assumption) ?_; rotate_left 1; (focus exact Z1s1); focus try simp only [Act.put, List.setIfInBounds_toArray, List.set_cons_zero, List.set_cons_succ]
    refine tl11 ?_ Z1s0 (by rfl) (fun _ _ _ => id) ?_ (by assumption) ?_; rotate_left 1; (focus exact Z1s1); focus try simp only [Act.put, List.setIfInBounds_toArray, List.set_cons_zero, List.set_cons_succ]
    refine tl12 ?_ Z1s0 (by rfl) (fun _ _ _ => id) ?_ (by assumption) ?_; rotate_left 1; (focus exact Z1s1); focus try simp only [Act.put, List.setIfInBounds_toArray, List.set_cons_zero, List.set_cons_succ]
    refine tl13 ?_ Z1s0 (by rfl) (fun _ _ _ => id) ?_ (by assumption) ?_; rotate_left 1; (focus exact Z1s1); focus try simp only [Act.put, List.setIfInBounds_toArray, List.set_cons_zero, List.set_cons_succ]
    refine tl14 ?_ Z1s0 (by rfl) (fun _ _ _ => id) ?_ (by assumption) ?_; rotate_left 1; (focus exact Z1s1); focus try simp only [Act.put, List.setIfInBounds_toArray, List.set_cons_zero, List.set_cons_succ]
    refine tl15 ?_ Z1s0 (by rfl) (fun _ _ _ => id) ?_ (by assumption) ?_; rotate_left 1; (focus exact Z1s1); focus try simp only [Act.put, List.setIfInBounds_toArray, List.set_cons_zero, List.set_cons_succ]
    refine tl16 ?_ Z1s0 (by rfl) (fun _ _ _ => id) ?_ (by assumption) ?_; rotate_left 1; (focus exact Z1s1); focus try simp only [Act.put, List.setIfInBounds_toArray, List.set_cons_zero, List.set_cons_succ]
    refine tl17 ?_ Z1s0 (by rfl) (fun _ _ _ => id) ?_ (by assumption) ?_; rotate_left 1; (focus exact Z1s1); focus try simp only [Act.put, List.setIfInBounds_toArray, List.set_cons_zero, List.set_cons_succ]
    refine tl18 ?_ Z1s0 (by rfl) (fun _ _ _ => id) ?_ (by assumption) ?_; rotate_left 1; (focus exact Z1s1); focus try simp only [Act.put, List.setIfInBounds_toArray, List.set_cons_zero, List.set_cons_succ]
    refine wpAnyL_ready (rs := [19]) (by kernel_rfl) (by simp) (al19 (fun K hK => ?_) (AllReadyL.nil))
    focus go_simp
    focus (refine (minus_ok fy fx hf _).mono ?_; rintro e w2 ⟨rfl, hb2⟩; (try have HP := hp_keep HP hb2); (try have HL := rl_keep HL hb2); (try have HI := ri_keep HI hb2); (try have HT := tab_keep HT hb2))
    focus try simp only []
    refine hK.out _ _ (fun _ => ?_) (fun hHeld => ?_)
    · exact hHeld.keep hb2
    focus (have hHeld := hHeld (by decide); clear hK K; try simp only [Act.put, List.setIfInBounds_toArray, List.set_cons_zero, List.set_cons_succ])
    refine tl20 ?_ Z1s0 (by rfl) (fun _ _ _ => id) ?_ (by assumption) ?_; rotate_left 1; (focus exact Z1s1); focus try simp only [Act.put, List.setIfInBounds_toArray, List.set_cons_zero, List.set_cons_succ]
    refine tl21 ?_ Z1s0 (by rfl) (fun _ _ _ => id) ?_ (by assumption) ?_; rotate_left 1; (focus exact Z1s1); focus try simp only [Act.put, List.setIfInBounds_toArray, List.set_cons_zero, List.set_cons_succ]
    refine wpAnyL_ready (rs := [22]) (by kernel_rfl) (by simp) (al22 (fun K hK => ?_) (AllReadyL.nil))
    focus go_simp
    focus (refine (mustq_ok _ _).mono ?_; rintro e w2 ⟨rfl, hb2⟩; (try have HP := hp_keep HP hb2); (try have HL := rl_keep HL hb2); (try have HI := ri_keep HI hb2); (try have HT := tab_keep HT hb2))
    focus try simp only []
    refine hK.out _ _ (fun _ => ?_) (fun hHeld => ?_)
    · exact hHeld.keep hb2
    focus (have hHeld := hHeld (by decide); clear hK K; try simp only [Act.put, List.setIfInBounds_toArray, List.set_cons_zero, List.set_cons_succ])
    refine wpAnyL_ready (rs := [23]) (by kernel_rfl) (by simp) (al23 (fun K hK => ?_) (AllReadyL.nil))
    focus (obtain ⟨s0, s1, sf0, sf1⟩ := box2 HP; go_simp)
    refine hK.out _ _ (fun h => absurd rfl h) (fun _ => ?_)
    focus (clear hK K; try simp only [Act.put, List.setIfInBounds_toArray, List.set_cons_zero, List.set_cons_succ])
    refine wpAnyL_done (by kernel_rfl) ?_ _; rotate_left 1
    go_wp2
    obtain ⟨s0, s1, sf0, sf1⟩ := box2 HP
    simp [bodyPost, results, Try.results59, go_sem, s0, s1, sf0, sf1]
    exact ⟨rfl, (hHeld.below.setCell (Nat.le_refl _) _).setCell (Nat.le_refl _) _⟩
  · rw [okQ, if_neg hf]
    go_enter Try.func59, Try.ntmps59
    go_wp2_with fail
    have hb0 : Below w.heap.size w (w.alloc (.cells #[.int .i64 0, .int .i64 0] 29)).drew := ((Below.refl _ _).alloc (Nat.le_refl _) _).drew
    refine wp_region_L 23 (Hd _ w w.heap.size) (by kernel_rfl) (⟨Nat.le_refl _, HC.out.keep hb0, hb0⟩) (fun hHeld => ?_)
    refine tl0 ?_ Z1s0 (by rfl) (fun _ _ _ => id) ?_ (by assumption) ?_; rotate_left 1; (focus exact Z1s1); focus try simp only [Act.put, List.setIfInBounds_toArray, List.set_cons_zero, List.set_cons_succ]
    refine tl1 ?_ Z1s0 (by rfl) (fun _ _ _ => id) ?_ (by assumption) ?_; rotate_left 1; (focus exact Z1s1); focus try simp only [Act.put, List.setIfInBounds_toArray, List.set_cons_zero, List.set_cons_succ]
    refine tl2 ?_ Z1s0 (by rfl) (fun _ _ _ => id) ?_ (by assumption) ?_; rotate_left 1; (focus exact Z1s1); focus try simp only [Act.put, List.setIfInBounds_toArray, List.set_cons_zero, List.set_cons_succ]
    refine tl3 ?_ Z1s0 (by rfl) (fun _ _ _ => id) ?_ (by assumption) ?_; rotate_left 1; (focus exact Z1s1); focus try simp only [Act.put, List.setIfInBounds_toArray, List.set_cons_zero, List.set_cons_succ]
    refine tl4 ?_ Z1s0 (by rfl) (fun _ _ _ => id) ?_ (by assumption) ?_; rotate_left 1; (focus exact Z1s1); focus try simp only [Act.put, List.setIfInBounds_toArray, List.set_cons_zero, List.set_cons_succ]
    refine tl5 ?_ Z1s0 (by rfl) (fun _ _ _ => id) ?_ (by assumption) ?_; rotate_left 1; (focus exact Z1s1); focus try simp only [Act.put, List.setIfInBounds_toArray, List.set_cons_zero, List.set_cons_succ]
    refine tl6 ?_ Z1s0 (by rfl) (fun _ _ _ => id) ?_ (by assumption) ?_; rotate_left 1; (focus exact Z1s1); focus try simp only [Act.put, List.setIfInBounds_toArray, List.set_cons_zero, List.set_cons_succ]
    refine tl7 ?_ Z1s0 (by rfl) (fun _ _ _ => id) ?_ (by assumption) ?_; rotate_left 1; (focus exact Z1s1); focus try simp only [Act.put, List.setIfInBounds_toArray, List.set_cons_zero, List.set_cons_succ]
    refine tl8 ?_ Z1s0 (by rfl) (fun _ _ _ => id) ?_ (by assumption) ?_; rotate_left 1; (focus exact Z1s1); focus try simp only [Act.put, List.setIfInBounds_toArray, List.set_cons_zero, List.set_cons_succ]
    refine tl9 ?_ Z1s0 (by rfl) (fun _ _ _ => id) ?_ (by assumption) ?_; rotate_left 1; (focus exact Z1s1); focus try simp only [Act.put, List.setIfInBounds_toArray, List.set_cons_zero, List.set_cons_succ]
    refine tl10 ?_ Z1s0 (by rfl) (fun _ _ _ => id) ?_ (by assumption) ?_; rotate_left 1; (focus exact Z1s1); focus try simp only [Act.put, List.setIfInBounds_toArray, List.set_cons_zero, List.set_cons_succ]
    refine tl11 ?_ Z1s0 (by rfl) (fun _ _ _ => id) ?_ (by assumption) ?_; rotate_left 1; (focus exact Z1s1); focus try simp only [Act.put, List.setIfInBounds_toArray, List.set_cons_zero, List.set_cons_succ]
    refine tl12 ?_ Z1s0 (by rfl) (fun _ _ _ => id) ?_ (by assumption) ?_; rotate_left 1; (focus exact Z1s1); focus try simp only [Act.put, List.setIfInBounds_toArray, List.set_cons_zero, List.set_cons_succ]
    refine tl13 ?_ Z1s0 (by rfl) (fun _ _ _ => id) ?_ (by assumption) ?_; rotate_left 1; (focus exact Z1s1); focus try simp only [Act.put, List.setIfInBounds_toArray, List.set_cons_zero, List.set_cons_succ]
    refine tl14 ?_ Z1s0 (by rfl) (fun _ _ _ => id) ?_ (by assumption) ?_; rotate_left 1; (focus exact Z1s1); focus try simp only [Act.put, List.setIfInBounds_toArray, List.set_cons_zero, List.set_cons_succ]
    refine tl15 ?_ Z1s0 (by rfl) (fun _ _ _ => id) ?_ (by assumption) ?_; rotate_left 1; (focus exact Z1s1); focus try simp only [Act.put, List.setIfInBounds_toArray, List.set_cons_zero, List.set_cons_succ]
    refine tl16 ?_ Z1s0 (by rfl) (fun _ _ _ => id) ?_ (by assumption) ?_; rotate_left 1; (focus exact Z1s1); focus try simp only [Act.put, List.setIfInBounds_toArray, List.set_cons_zero, List.set_cons_succ]
    refine tl17 ?_ Z1s0 (by rfl) (fun _ _ _ => id) ?_ (by assumption) ?_; rotate_left 1; (focus exact Z1s1); focus try simp only [Act.put, List.setIfInBounds_toArray, List.set_cons_zero, List.set_cons_succ]
    refine tl18 ?_ Z1s0 (by rfl) (fun _ _ _ => id) ?_ (by assumption) ?_; rotate_left 1; (focus exact Z1s1); focus try simp only [Act.put, List.setIfInBounds_toArray, List.set_cons_zero, List.set_cons_succ]
    refine wpAnyL_ready (rs := [19]) (by kernel_rfl) (by simp) (al19 (fun K hK => ?_) (AllReadyL.nil))
    focus go_simp
    focus (refine (minus_no fy fx hf _).mono ?_; rintro e w2 ⟨rfl, hb2⟩; (try have HP := hp_keep HP hb2); (try have HL := rl_keep HL hb2); (try have HI := ri_keep HI hb2); (try have HT := tab_keep HT hb2))
    focus try simp only []
    refine hK.out _ _ (fun _ => ?_) (fun hHeld => ?_)
    · exact hHeld.keep hb2
    focus (have hHeld := hHeld (by decide); clear hK K; try simp only [Act.put, List.setIfInBounds_toArray, List.set_cons_zero, List.set_cons_succ])
    refine tl20 ?_ Z1s0 (by rfl) (fun _ _ _ => id) ?_ (by assumption) ?_; rotate_left 1; (focus exact Z1s1); focus try simp only [Act.put, List.setIfInBounds_toArray, List.set_cons_zero, List.set_cons_succ]
    refine tl21 ?_ Z1s0 (by rfl) (fun _ _ _ => id) ?_ (by assumption) ?_; rotate_left 1; (focus exact Z1s1); focus try simp only [Act.put, List.setIfInBounds_toArray, List.set_cons_zero, List.set_cons_succ]
    refine wpAnyL_ready (rs := [22]) (by kernel_rfl) (by simp) (al22 (fun K hK => ?_) (AllReadyL.nil))
    focus go_simp
    · refine (mustR_no _ _ _).mono ?_; rintro e w2 ⟨rfl, hb2⟩; exact ⟨rfl, rfl, (hHeld.keep hb2).below⟩

end Go.Proofs.Ytdkbnbebioflaaa.Ln
