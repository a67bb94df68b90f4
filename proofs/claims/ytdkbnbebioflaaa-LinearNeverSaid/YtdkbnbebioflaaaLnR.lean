/- linear's helps. -/
import Derived.Test.YtdkbnbebioflaaaTl
import Derived.Test.YtdkbnbebioflaaaLnQ
namespace Go.Proofs
theorem Z1u0 {p : Prop} (h : p := by simp; have := HBR.out.size; omega) : p := h
theorem Z1u1 {p : Prop} (h : p := by kernel_rfl) : p := h
theorem Z1u2 {p : Prop} (h : p := by decide +kernel) : p := h
theorem Z1u3 {p : Prop} (h : p := by (intro w_ hSw; have hSw := hSw.cells; simp only [Cells] at hSw; go_simp; all_goals (with_reducible rfl); done)) : p := h
end Go.Proofs
namespace Go.Proofs.Ytdkbnbebioflaaa.Ln
open Go.RowKit Go.Proofs.Ytdkbnbebioflaaa.Num Go.Proofs.Ytdkbnbebioflaaa.Given Go.Proofs.Ytdkbnbebioflaaa.Lin Go.Proofs.YtdkbnbebioflaaaW.PrintWords
set_option linter.unusedVariables false
set_option linter.unusedSimpArgs false

theorem num_pos {x : Rat} : 0 < x.num ↔ 0 < x := by rw [Rat.lt_iff]; simp
theorem num_neg {x : Rat} : x.num < 0 ↔ x < 0 := by rw [Rat.lt_iff]; simp
theorem sign_pos {x : Rat} (h : 0 < x) (w : World) : Calls Try.prog 47 #[rv x] w fun e w' => e = .returned (.int .i64 1) ∧ Below w.heap.size w w' := by
  have h1 := num_pos.2 h
  have : sg0 x.num = 1 := by unfold sg0; rw [if_neg (by omega), if_pos h1]
  rw [← this]; exact sign_q x w
theorem sign_neg {x : Rat} (h : x < 0) (w : World) : Calls Try.prog 47 #[rv x] w fun e w' => e = .returned (.int .i64 (-1)) ∧ Below w.heap.size w w' := by
  have h1 := num_neg.2 h
  have : sg0 x.num = -1 := by unfold sg0; rw [if_pos h1]
  rw [← this]; exact sign_q x w
theorem sign_zero {x : Rat} (h : x = 0) (w : World) : Calls Try.prog 47 #[rv x] w fun e w' => e = .returned (.int .i64 0) ∧ Below w.heap.size w w' := by
  subst h
  exact sign_q 0 w
theorem row_open {w : World} {base : Nat} {v : Value} {l : List Rat} (h : RowQ w base v l) : ∃ A c, v = .slice A l.length c ∧ l.length ≤ c := by
  obtain ⟨_, hv⟩ := h
  rcases hv with ⟨h1, h2⟩ | ⟨g, cap, cur, h, _, _, h3, _⟩
  · exact ⟨none, 0, by rw [h1, h2], by omega⟩
  · exact ⟨_, _, h, h3⟩
theorem sgne {x : Rat} (h : ¬ 0 < x) (h2 : ¬ x < 0) : x = 0 := by grind

set_option maxHeartbeats 8000000 in
set_option maxRecDepth 100000 in
theorem helps_any (w : World) (base tb vars i : Nat) (t : Tab) (vb vr vv vl : Value) (rs : List Value) (hT : TabAt w base tb vars t vb vr vv vl rs) (hW : WfT vars t) (hi : i < t.rows.length) :
    Calls Try.prog 36 #[.pointer (some ⟨tb, 0, none⟩), .int .i64 i] w fun e w' => e = .returned (.int .i64 (atI (helps vars t i))) ∧ Below w.heap.size w w' := by
  obtain ⟨r, hr⟩ : ∃ r, helps vars t i = r := ⟨_, rfl⟩
  rw [hr]
  have hir : i < rs.length := by rw [hT.len]; exact hi
  have hRow := hT.row i hir
  obtain ⟨gR, cR, eR, _, _, q0, _, _⟩ := one_at hT.rows hir
  subst eR
  obtain ⟨rv0, hrv⟩ : ∃ rv0, rs[i] = rv0 := ⟨_, rfl⟩
  rw [hrv] at hRow q0
  obtain ⟨Ar, cr, er, _⟩ := row_open hRow
  have hcl := hW.cl i hi
  have HVL := Lib.hid hW.vl
  have HM := Lib.hid hW.max
  have HT := Lib.hid hT
  have HW := Lib.hid hW
  unfold helps at hr
  have hN := hcl
  obtain ⟨row, hrow⟩ : ∃ row, rdR t.rows i = row := ⟨_, rfl⟩
  have hfr := hW.fr i
  rw [hrow] at hRow hr hcl er hfr
  have HROW := Lib.hid hRow
  have HR := Lib.hid hr
  have HCL := Lib.hid hcl
  have HFR := Lib.hid hfr
  subst er
  have b0 : w.cell? ⟨tb, 0, none⟩ = some (.int .i64 vars) := blk_cell hT.box 0
  have b2 : w.cell? ⟨tb, 2, none⟩ = some (.slice (some ⟨gR, 0, none⟩) rs.length cR) := blk_cell hT.box 2
  clear hT hW hr hN hrow hi hcl hfr hRow hrv
  go_enter Try.func36, Try.ntmps36
  go_wp2
  go_loopw [16] (fun v16 wr => ∃ j : Nat, j ≤ row.length ∧ v16 = .int .i64 j ∧ helpsF vars t row (row.length - j) j = r ∧ Below w.heap.size w wr) (fun v16 _ => row.length - (intOf v16).toNat)
  case atStart => exact ⟨0, Nat.zero_le _, rfl, HR.out, Below.refl _ _⟩
  case round =>
    obtain ⟨j, hj, rfl, hF, hbr⟩ := hrel
    by_cases hjl : j < row.length
    · obtain ⟨gr, cr', er, _, _, z0, z1, _⟩ := rowQ_rd HROW.out hjl
      injection er with e1 _ e3
      subst e1
      subst e3
      rw [show row.length - j = (row.length - (j + 1)) + 1 by omega, helpsF] at hF
      have fc := HFR.out j
      have EW := Lib.hid (wrapj (show j + 1 < 9223372036854775808 by have := HCL.out; have := HM.out; omega))
      have HBR := Lib.hid hbr
      have z0' := kcell hbr z0
      have z1' := kcell hbr z1
      have c0 := kcell hbr b0
      obtain ⟨x, hx⟩ : ∃ x, rdQ row j = x := ⟨_, rfl⟩
      rw [hx] at z0' z1' fc
      have HX := Lib.hid hx
      clear hbr z0 z1 hx b0 b2
      by_cases hp : 0 < x
      · rw [if_pos (show goodQ vars t row j from .inl (by rw [HX.out]; exact hp))] at hF
        have HS := Lib.hid (sign_pos hp)
        obtain rfl : r = some j := hF.symm
        clear hF fc hp
        go_wp2_with fail
        refine (HS.out _).mono ?_
        rintro e w2 ⟨rfl, hb2⟩
        have HB2 := Lib.hid ((show Below w.heap.size w _ from (HBR.out.alloc HBR.out.size _)).trans (hb2.mono Z1u0))
        have hd0 : Hd [(⟨tb, 0, none⟩, .int .i64 vars)] w w.heap.size w2 := ⟨Nat.le_refl _, (show Cells [(⟨tb, 0, none⟩, .int .i64 vars)] wr from ⟨c0, trivial⟩).keep (((Below.refl wr.heap.size wr).alloc (Nat.le_refl _) _).trans (hb2.mono (by simp))), HB2.out⟩
        clear hb2 z0' z1' c0
        go_wp2_with fail
        refine wp_region_L 36 (Hd _ w w.heap.size) Z1u1 (hd0.drew) (fun hHeld => ?_)
        refine tl0 ?_ Z1u2 (by rfl) (fun _ _ _ => id) ?_ (by assumption) ?_; rotate_left 1; (focus exact Z1u3); focus try simp only [Act.put, List.setIfInBounds_toArray, List.set_cons_zero, List.set_cons_succ]
        refine tl1 ?_ Z1u2 (by rfl) (fun _ _ _ => id) ?_ (by assumption) ?_; rotate_left 1; (focus exact Z1u3); focus try simp only [Act.put, List.setIfInBounds_toArray, List.set_cons_zero, List.set_cons_succ]
        refine tl2 ?_ Z1u2 (by rfl) (fun _ _ _ => id) ?_ (by assumption) ?_; rotate_left 1; (focus exact Z1u3); focus try simp only [Act.put, List.setIfInBounds_toArray, List.set_cons_zero, List.set_cons_succ]
        (first | (refine tl3 ?_ Z1u2 (by rfl) (fun _ _ _ => id) ?_ (by assumption) ?_; rotate_left 1; (focus exact Z1u3)) | refine ul3 Z1u1 (by rfl) (fun _ _ _ => id) (by assumption) ?_); focus try simp only [Act.put, List.setIfInBounds_toArray, List.set_cons_zero, List.set_cons_succ]
        (first | (refine tl4 ?_ Z1u2 (by rfl) (fun _ _ _ => id) ?_ (by assumption) ?_; rotate_left 1; (focus exact Z1u3)) | refine ul4 Z1u1 (by rfl) (fun _ _ _ => id) (by assumption) ?_); focus try simp only [Act.put, List.setIfInBounds_toArray, List.set_cons_zero, List.set_cons_succ]
        (first | (refine tl5 ?_ Z1u2 (by rfl) (fun _ _ _ => id) ?_ (by assumption) ?_; rotate_left 1; (focus exact Z1u3)) | refine ul5 Z1u1 (by rfl) (fun _ _ _ => id) (by assumption) ?_); focus try simp only [Act.put, List.setIfInBounds_toArray, List.set_cons_zero, List.set_cons_succ]
        (first | (refine tl6 ?_ Z1u2 (by rfl) (fun _ _ _ => id) ?_ (by assumption) ?_; rotate_left 1; (focus exact Z1u3)) | refine ul6 Z1u1 (by rfl) (fun _ _ _ => id) (by assumption) ?_); focus try simp only [Act.put, List.setIfInBounds_toArray, List.set_cons_zero, List.set_cons_succ]
        (first | (refine tl7 ?_ Z1u2 (by rfl) (fun _ _ _ => id) ?_ (by assumption) ?_; rotate_left 1; (focus exact Z1u3)) | refine ul7 Z1u1 (by rfl) (fun _ _ _ => id) (by assumption) ?_); focus try simp only [Act.put, List.setIfInBounds_toArray, List.set_cons_zero, List.set_cons_succ]
        (first | (refine tl8 ?_ Z1u2 (by rfl) (fun _ _ _ => id) ?_ (by assumption) ?_; rotate_left 1; (focus exact Z1u3)) | refine ul8 Z1u1 (by rfl) (fun _ _ _ => id) (by assumption) ?_); focus try simp only [Act.put, List.setIfInBounds_toArray, List.set_cons_zero, List.set_cons_succ]
        (first | (refine tl9 ?_ Z1u2 (by rfl) (fun _ _ _ => id) ?_ (by assumption) ?_; rotate_left 1; (focus exact Z1u3)) | refine ul9 Z1u1 (by rfl) (fun _ _ _ => id) (by assumption) ?_); focus try simp only [Act.put, List.setIfInBounds_toArray, List.set_cons_zero, List.set_cons_succ]
        (first | (refine tl10 ?_ Z1u2 (by rfl) (fun _ _ _ => id) ?_ (by assumption) ?_; rotate_left 1; (focus exact Z1u3)) | refine ul10 Z1u1 (by rfl) (fun _ _ _ => id) (by assumption) ?_); focus try simp only [Act.put, List.setIfInBounds_toArray, List.set_cons_zero, List.set_cons_succ]
        (first | (refine tl11 ?_ Z1u2 (by rfl) (fun _ _ _ => id) ?_ (by assumption) ?_; rotate_left 1; (focus exact Z1u3)) | refine ul11 Z1u1 (by rfl) (fun _ _ _ => id) (by assumption) ?_); focus try simp only [Act.put, List.setIfInBounds_toArray, List.set_cons_zero, List.set_cons_succ]
        (first | (refine tl12 ?_ Z1u2 (by rfl) (fun _ _ _ => id) ?_ (by assumption) ?_; rotate_left 1; (focus exact Z1u3)) | refine ul12 Z1u1 (by rfl) (fun _ _ _ => id) (by assumption) ?_); focus try simp only [Act.put, List.setIfInBounds_toArray, List.set_cons_zero, List.set_cons_succ]
        (first | (refine tl13 ?_ Z1u2 (by rfl) (fun _ _ _ => id) ?_ (by assumption) ?_; rotate_left 1; (focus exact Z1u3)) | refine ul13 Z1u1 (by rfl) (fun _ _ _ => id) (by assumption) ?_); focus try simp only [Act.put, List.setIfInBounds_toArray, List.set_cons_zero, List.set_cons_succ]
        (first | (refine tl14 ?_ Z1u2 (by rfl) (fun _ _ _ => id) ?_ (by assumption) ?_; rotate_left 1; (focus exact Z1u3)) | refine ul14 Z1u1 (by rfl) (fun _ _ _ => id) (by assumption) ?_); focus try simp only [Act.put, List.setIfInBounds_toArray, List.set_cons_zero, List.set_cons_succ]
        (first | (refine tl15 ?_ Z1u2 (by rfl) (fun _ _ _ => id) ?_ (by assumption) ?_; rotate_left 1; (focus exact Z1u3)) | refine ul15 Z1u1 (by rfl) (fun _ _ _ => id) (by assumption) ?_); focus try simp only [Act.put, List.setIfInBounds_toArray, List.set_cons_zero, List.set_cons_succ]
        (first | (refine tl16 ?_ Z1u2 (by rfl) (fun _ _ _ => id) ?_ (by assumption) ?_; rotate_left 1; (focus exact Z1u3)) | refine ul16 Z1u1 (by rfl) (fun _ _ _ => id) (by assumption) ?_); focus try simp only [Act.put, List.setIfInBounds_toArray, List.set_cons_zero, List.set_cons_succ]
        (first | (refine tl17 ?_ Z1u2 (by rfl) (fun _ _ _ => id) ?_ (by assumption) ?_; rotate_left 1; (focus exact Z1u3)) | refine ul17 Z1u1 (by rfl) (fun _ _ _ => id) (by assumption) ?_); focus try simp only [Act.put, List.setIfInBounds_toArray, List.set_cons_zero, List.set_cons_succ]
        (first | (refine tl18 ?_ Z1u2 (by rfl) (fun _ _ _ => id) ?_ (by assumption) ?_; rotate_left 1; (focus exact Z1u3)) | refine ul18 Z1u1 (by rfl) (fun _ _ _ => id) (by assumption) ?_); focus try simp only [Act.put, List.setIfInBounds_toArray, List.set_cons_zero, List.set_cons_succ]
        (first | (refine tl19 ?_ Z1u2 (by rfl) (fun _ _ _ => id) ?_ (by assumption) ?_; rotate_left 1; (focus exact Z1u3)) | refine ul19 Z1u1 (by rfl) (fun _ _ _ => id) (by assumption) ?_); focus try simp only [Act.put, List.setIfInBounds_toArray, List.set_cons_zero, List.set_cons_succ]
        (first | (refine tl20 ?_ Z1u2 (by rfl) (fun _ _ _ => id) ?_ (by assumption) ?_; rotate_left 1; (focus exact Z1u3)) | refine ul20 Z1u1 (by rfl) (fun _ _ _ => id) (by assumption) ?_); focus try simp only [Act.put, List.setIfInBounds_toArray, List.set_cons_zero, List.set_cons_succ]
        (first | (refine tl21 ?_ Z1u2 (by rfl) (fun _ _ _ => id) ?_ (by assumption) ?_; rotate_left 1; (focus exact Z1u3)) | refine ul21 Z1u1 (by rfl) (fun _ _ _ => id) (by assumption) ?_); focus try simp only [Act.put, List.setIfInBounds_toArray, List.set_cons_zero, List.set_cons_succ]
        (first | (refine tl22 ?_ Z1u2 (by rfl) (fun _ _ _ => id) ?_ (by assumption) ?_; rotate_left 1; (focus exact Z1u3)) | refine ul22 Z1u1 (by rfl) (fun _ _ _ => id) (by assumption) ?_); focus try simp only [Act.put, List.setIfInBounds_toArray, List.set_cons_zero, List.set_cons_succ]
        (first | (refine tl23 ?_ Z1u2 (by rfl) (fun _ _ _ => id) ?_ (by assumption) ?_; rotate_left 1; (focus exact Z1u3)) | refine ul23 Z1u1 (by rfl) (fun _ _ _ => id) (by assumption) ?_); focus try simp only [Act.put, List.setIfInBounds_toArray, List.set_cons_zero, List.set_cons_succ]
        (first | (refine tl24 ?_ Z1u2 (by rfl) (fun _ _ _ => id) ?_ (by assumption) ?_; rotate_left 1; (focus exact Z1u3)) | refine ul24 Z1u1 (by rfl) (fun _ _ _ => id) (by assumption) ?_); focus try simp only [Act.put, List.setIfInBounds_toArray, List.set_cons_zero, List.set_cons_succ]
        (first | (refine tl25 ?_ Z1u2 (by rfl) (fun _ _ _ => id) ?_ (by assumption) ?_; rotate_left 1; (focus exact Z1u3)) | refine ul25 Z1u1 (by rfl) (fun _ _ _ => id) (by assumption) ?_); focus try simp only [Act.put, List.setIfInBounds_toArray, List.set_cons_zero, List.set_cons_succ]
        (first | (refine tl26 ?_ Z1u2 (by rfl) (fun _ _ _ => id) ?_ (by assumption) ?_; rotate_left 1; (focus exact Z1u3)) | refine ul26 Z1u1 (by rfl) (fun _ _ _ => id) (by assumption) ?_); focus try simp only [Act.put, List.setIfInBounds_toArray, List.set_cons_zero, List.set_cons_succ]
        (first | (refine tl27 ?_ Z1u2 (by rfl) (fun _ _ _ => id) ?_ (by assumption) ?_; rotate_left 1; (focus exact Z1u3)) | refine ul27 Z1u1 (by rfl) (fun _ _ _ => id) (by assumption) ?_); focus try simp only [Act.put, List.setIfInBounds_toArray, List.set_cons_zero, List.set_cons_succ]
        (first | (refine tl28 ?_ Z1u2 (by rfl) (fun _ _ _ => id) ?_ (by assumption) ?_; rotate_left 1; (focus exact Z1u3)) | refine ul28 Z1u1 (by rfl) (fun _ _ _ => id) (by assumption) ?_); focus try simp only [Act.put, List.setIfInBounds_toArray, List.set_cons_zero, List.set_cons_succ]
        (first | (refine tl29 ?_ Z1u2 (by rfl) (fun _ _ _ => id) ?_ (by assumption) ?_; rotate_left 1; (focus exact Z1u3)) | refine ul29 Z1u1 (by rfl) (fun _ _ _ => id) (by assumption) ?_); focus try simp only [Act.put, List.setIfInBounds_toArray, List.set_cons_zero, List.set_cons_succ]
        (first | (refine tl30 ?_ Z1u2 (by rfl) (fun _ _ _ => id) ?_ (by assumption) ?_; rotate_left 1; (focus exact Z1u3)) | refine ul30 Z1u1 (by rfl) (fun _ _ _ => id) (by assumption) ?_); focus try simp only [Act.put, List.setIfInBounds_toArray, List.set_cons_zero, List.set_cons_succ]
        (first | (refine tl31 ?_ Z1u2 (by rfl) (fun _ _ _ => id) ?_ (by assumption) ?_; rotate_left 1; (focus exact Z1u3)) | refine ul31 Z1u1 (by rfl) (fun _ _ _ => id) (by assumption) ?_); focus try simp only [Act.put, List.setIfInBounds_toArray, List.set_cons_zero, List.set_cons_succ]
        refine wpAnyL_ready (rs := [32]) Z1u1 (by simp) (al32 (fun K hK => ?_) (AllReadyL.nil))
        focus go_simp
        refine hK.out _ _ (fun _ => ?_) (fun hHeld => ?_)
        · exact hHeld
        focus (have hHeld := hHeld (by decide); clear hK K; try simp only [Act.put, List.setIfInBounds_toArray, List.set_cons_zero, List.set_cons_succ])
        (first | (refine tl33 ?_ Z1u2 (by rfl) (fun _ _ _ => id) ?_ (by assumption) ?_; rotate_left 1; (focus exact Z1u3)) | refine ul33 Z1u1 (by rfl) (fun _ _ _ => id) (by assumption) ?_); focus try simp only [Act.put, List.setIfInBounds_toArray, List.set_cons_zero, List.set_cons_succ]
        (first | (refine tl34 ?_ Z1u2 (by rfl) (fun _ _ _ => id) ?_ (by assumption) ?_; rotate_left 1; (focus exact Z1u3)) | refine ul34 Z1u1 (by rfl) (fun _ _ _ => id) (by assumption) ?_); focus try simp only [Act.put, List.setIfInBounds_toArray, List.set_cons_zero, List.set_cons_succ]
        (first | (refine tl35 ?_ Z1u2 (by rfl) (fun _ _ _ => id) ?_ (by assumption) ?_; rotate_left 1; (focus exact Z1u3)) | refine ul35 Z1u1 (by rfl) (fun _ _ _ => id) (by assumption) ?_); focus try simp only [Act.put, List.setIfInBounds_toArray, List.set_cons_zero, List.set_cons_succ]
        refine wpAnyL_ready (rs := [36]) Z1u1 (by simp) (al36 (fun K hK => ?_) (AllReadyL.nil))
        focus go_simp
        refine hK.out _ _ (fun h => absurd rfl h) (fun _ => ?_)
        focus (clear hK K; try simp only [Act.put, List.setIfInBounds_toArray, List.set_cons_zero, List.set_cons_succ])
        refine wpAnyL_done Z1u1 ?_ _; rotate_left 1
        go_wp2
        go_ret
        exact ⟨rfl, hHeld.below⟩
      · by_cases hn : x < 0
        · have HS := Lib.hid (sign_neg hn)
          by_cases hv : j < vars
          · rw [if_pos (show goodQ vars t row j from .inr ⟨by rw [HX.out]; exact hn, .inl hv⟩)] at hF
            obtain rfl : r = some j := hF.symm
            have eV : ((j : Int) < (vars : Int)) = True := eq_true (by omega)
            clear hF fc hp hn
            go_wp2_with fail
            refine (HS.out _).mono ?_
            rintro e w2 ⟨rfl, hb2⟩
            have HB2 := Lib.hid ((show Below w.heap.size w _ from (HBR.out.alloc HBR.out.size _)).trans (hb2.mono Z1u0))
            have hd0 : Hd [(⟨tb, 0, none⟩, .int .i64 vars)] w w.heap.size w2 := ⟨Nat.le_refl _, (show Cells [(⟨tb, 0, none⟩, .int .i64 vars)] wr from ⟨c0, trivial⟩).keep (((Below.refl wr.heap.size wr).alloc (Nat.le_refl _) _).trans (hb2.mono (by simp))), HB2.out⟩
            clear hb2 z0' z1' c0
            go_wp2_with fail
            refine wp_region_L 36 (Hd _ w w.heap.size) Z1u1 (hd0.drew) (fun hHeld => ?_)
            refine tl0 ?_ Z1u2 (by rfl) (fun _ _ _ => id) ?_ (by assumption) ?_; rotate_left 1; (focus exact Z1u3); focus try simp only [Act.put, List.setIfInBounds_toArray, List.set_cons_zero, List.set_cons_succ]
            refine tl1 ?_ Z1u2 (by rfl) (fun _ _ _ => id) ?_ (by assumption) ?_; rotate_left 1; (focus exact Z1u3); focus try simp only [Act.put, List.setIfInBounds_toArray, List.set_cons_zero, List.set_cons_succ]
            refine tl2 ?_ Z1u2 (by rfl) (fun _ _ _ => id) ?_ (by assumption) ?_; rotate_left 1; (focus exact Z1u3); focus try simp only [Act.put, List.setIfInBounds_toArray, List.set_cons_zero, List.set_cons_succ]
            (first | (refine tl3 ?_ Z1u2 (by rfl) (fun _ _ _ => id) ?_ (by assumption) ?_; rotate_left 1; (focus exact Z1u3)) | refine ul3 Z1u1 (by rfl) (fun _ _ _ => id) (by assumption) ?_); focus try simp only [Act.put, List.setIfInBounds_toArray, List.set_cons_zero, List.set_cons_succ]
            (first | (refine tl4 ?_ Z1u2 (by rfl) (fun _ _ _ => id) ?_ (by assumption) ?_; rotate_left 1; (focus exact Z1u3)) | refine ul4 Z1u1 (by rfl) (fun _ _ _ => id) (by assumption) ?_); focus try simp only [Act.put, List.setIfInBounds_toArray, List.set_cons_zero, List.set_cons_succ]
            (first | (refine tl5 ?_ Z1u2 (by rfl) (fun _ _ _ => id) ?_ (by assumption) ?_; rotate_left 1; (focus exact Z1u3)) | refine ul5 Z1u1 (by rfl) (fun _ _ _ => id) (by assumption) ?_); focus try simp only [Act.put, List.setIfInBounds_toArray, List.set_cons_zero, List.set_cons_succ]
            (first | (refine tl6 ?_ Z1u2 (by rfl) (fun _ _ _ => id) ?_ (by assumption) ?_; rotate_left 1; (focus exact Z1u3)) | refine ul6 Z1u1 (by rfl) (fun _ _ _ => id) (by assumption) ?_); focus try simp only [Act.put, List.setIfInBounds_toArray, List.set_cons_zero, List.set_cons_succ]
            (first | (refine tl7 ?_ Z1u2 (by rfl) (fun _ _ _ => id) ?_ (by assumption) ?_; rotate_left 1; (focus exact Z1u3)) | refine ul7 Z1u1 (by rfl) (fun _ _ _ => id) (by assumption) ?_); focus try simp only [Act.put, List.setIfInBounds_toArray, List.set_cons_zero, List.set_cons_succ]
            (first | (refine tl8 ?_ Z1u2 (by rfl) (fun _ _ _ => id) ?_ (by assumption) ?_; rotate_left 1; (focus exact Z1u3)) | refine ul8 Z1u1 (by rfl) (fun _ _ _ => id) (by assumption) ?_); focus try simp only [Act.put, List.setIfInBounds_toArray, List.set_cons_zero, List.set_cons_succ]
            (first | (refine tl9 ?_ Z1u2 (by rfl) (fun _ _ _ => id) ?_ (by assumption) ?_; rotate_left 1; (focus exact Z1u3)) | refine ul9 Z1u1 (by rfl) (fun _ _ _ => id) (by assumption) ?_); focus try simp only [Act.put, List.setIfInBounds_toArray, List.set_cons_zero, List.set_cons_succ]
            (first | (refine tl10 ?_ Z1u2 (by rfl) (fun _ _ _ => id) ?_ (by assumption) ?_; rotate_left 1; (focus exact Z1u3)) | refine ul10 Z1u1 (by rfl) (fun _ _ _ => id) (by assumption) ?_); focus try simp only [Act.put, List.setIfInBounds_toArray, List.set_cons_zero, List.set_cons_succ]
            (first | (refine tl11 ?_ Z1u2 (by rfl) (fun _ _ _ => id) ?_ (by assumption) ?_; rotate_left 1; (focus exact Z1u3)) | refine ul11 Z1u1 (by rfl) (fun _ _ _ => id) (by assumption) ?_); focus try simp only [Act.put, List.setIfInBounds_toArray, List.set_cons_zero, List.set_cons_succ]
            (first | (refine tl12 ?_ Z1u2 (by rfl) (fun _ _ _ => id) ?_ (by assumption) ?_; rotate_left 1; (focus exact Z1u3)) | refine ul12 Z1u1 (by rfl) (fun _ _ _ => id) (by assumption) ?_); focus try simp only [Act.put, List.setIfInBounds_toArray, List.set_cons_zero, List.set_cons_succ]
            (first | (refine tl13 ?_ Z1u2 (by rfl) (fun _ _ _ => id) ?_ (by assumption) ?_; rotate_left 1; (focus exact Z1u3)) | refine ul13 Z1u1 (by rfl) (fun _ _ _ => id) (by assumption) ?_); focus try simp only [Act.put, List.setIfInBounds_toArray, List.set_cons_zero, List.set_cons_succ]
            (first | (refine tl14 ?_ Z1u2 (by rfl) (fun _ _ _ => id) ?_ (by assumption) ?_; rotate_left 1; (focus exact Z1u3)) | refine ul14 Z1u1 (by rfl) (fun _ _ _ => id) (by assumption) ?_); focus try simp only [Act.put, List.setIfInBounds_toArray, List.set_cons_zero, List.set_cons_succ]
            (first | (refine tl15 ?_ Z1u2 (by rfl) (fun _ _ _ => id) ?_ (by assumption) ?_; rotate_left 1; (focus exact Z1u3)) | refine ul15 Z1u1 (by rfl) (fun _ _ _ => id) (by assumption) ?_); focus try simp only [Act.put, List.setIfInBounds_toArray, List.set_cons_zero, List.set_cons_succ]
            (first | (refine tl16 ?_ Z1u2 (by rfl) (fun _ _ _ => id) ?_ (by assumption) ?_; rotate_left 1; (focus exact Z1u3)) | refine ul16 Z1u1 (by rfl) (fun _ _ _ => id) (by assumption) ?_); focus try simp only [Act.put, List.setIfInBounds_toArray, List.set_cons_zero, List.set_cons_succ]
            (first | (refine tl17 ?_ Z1u2 (by rfl) (fun _ _ _ => id) ?_ (by assumption) ?_; rotate_left 1; (focus exact Z1u3)) | refine ul17 Z1u1 (by rfl) (fun _ _ _ => id) (by assumption) ?_); focus try simp only [Act.put, List.setIfInBounds_toArray, List.set_cons_zero, List.set_cons_succ]
            (first | (refine tl18 ?_ Z1u2 (by rfl) (fun _ _ _ => id) ?_ (by assumption) ?_; rotate_left 1; (focus exact Z1u3)) | refine ul18 Z1u1 (by rfl) (fun _ _ _ => id) (by assumption) ?_); focus try simp only [Act.put, List.setIfInBounds_toArray, List.set_cons_zero, List.set_cons_succ]
            (first | (refine tl19 ?_ Z1u2 (by rfl) (fun _ _ _ => id) ?_ (by assumption) ?_; rotate_left 1; (focus exact Z1u3)) | refine ul19 Z1u1 (by rfl) (fun _ _ _ => id) (by assumption) ?_); focus try simp only [Act.put, List.setIfInBounds_toArray, List.set_cons_zero, List.set_cons_succ]
            (first | (refine tl20 ?_ Z1u2 (by rfl) (fun _ _ _ => id) ?_ (by assumption) ?_; rotate_left 1; (focus exact Z1u3)) | refine ul20 Z1u1 (by rfl) (fun _ _ _ => id) (by assumption) ?_); focus try simp only [Act.put, List.setIfInBounds_toArray, List.set_cons_zero, List.set_cons_succ]
            (first | (refine tl21 ?_ Z1u2 (by rfl) (fun _ _ _ => id) ?_ (by assumption) ?_; rotate_left 1; (focus exact Z1u3)) | refine ul21 Z1u1 (by rfl) (fun _ _ _ => id) (by assumption) ?_); focus try simp only [Act.put, List.setIfInBounds_toArray, List.set_cons_zero, List.set_cons_succ]
            (first | (refine tl22 ?_ Z1u2 (by rfl) (fun _ _ _ => id) ?_ (by assumption) ?_; rotate_left 1; (focus exact Z1u3)) | refine ul22 Z1u1 (by rfl) (fun _ _ _ => id) (by assumption) ?_); focus try simp only [Act.put, List.setIfInBounds_toArray, List.set_cons_zero, List.set_cons_succ]
            (first | (refine tl23 ?_ Z1u2 (by rfl) (fun _ _ _ => id) ?_ (by assumption) ?_; rotate_left 1; (focus exact Z1u3)) | refine ul23 Z1u1 (by rfl) (fun _ _ _ => id) (by assumption) ?_); focus try simp only [Act.put, List.setIfInBounds_toArray, List.set_cons_zero, List.set_cons_succ]
            (first | (refine tl24 ?_ Z1u2 (by rfl) (fun _ _ _ => id) ?_ (by assumption) ?_; rotate_left 1; (focus exact Z1u3)) | refine ul24 Z1u1 (by rfl) (fun _ _ _ => id) (by assumption) ?_); focus try simp only [Act.put, List.setIfInBounds_toArray, List.set_cons_zero, List.set_cons_succ]
            (first | (refine tl25 ?_ Z1u2 (by rfl) (fun _ _ _ => id) ?_ (by assumption) ?_; rotate_left 1; (focus exact Z1u3)) | refine ul25 Z1u1 (by rfl) (fun _ _ _ => id) (by assumption) ?_); focus try simp only [Act.put, List.setIfInBounds_toArray, List.set_cons_zero, List.set_cons_succ]
            (first | (refine tl26 ?_ Z1u2 (by rfl) (fun _ _ _ => id) ?_ (by assumption) ?_; rotate_left 1; (focus exact Z1u3)) | refine ul26 Z1u1 (by rfl) (fun _ _ _ => id) (by assumption) ?_); focus try simp only [Act.put, List.setIfInBounds_toArray, List.set_cons_zero, List.set_cons_succ]
            (first | (refine tl27 ?_ Z1u2 (by rfl) (fun _ _ _ => id) ?_ (by assumption) ?_; rotate_left 1; (focus exact Z1u3)) | refine ul27 Z1u1 (by rfl) (fun _ _ _ => id) (by assumption) ?_); focus try simp only [Act.put, List.setIfInBounds_toArray, List.set_cons_zero, List.set_cons_succ]
            (first | (refine tl28 ?_ Z1u2 (by rfl) (fun _ _ _ => id) ?_ (by assumption) ?_; rotate_left 1; (focus exact Z1u3)) | refine ul28 Z1u1 (by rfl) (fun _ _ _ => id) (by assumption) ?_); focus try simp only [Act.put, List.setIfInBounds_toArray, List.set_cons_zero, List.set_cons_succ]
            (first | (refine tl29 ?_ Z1u2 (by rfl) (fun _ _ _ => id) ?_ (by assumption) ?_; rotate_left 1; (focus exact Z1u3)) | refine ul29 Z1u1 (by rfl) (fun _ _ _ => id) (by assumption) ?_); focus try simp only [Act.put, List.setIfInBounds_toArray, List.set_cons_zero, List.set_cons_succ]
            (first | (refine tl30 ?_ Z1u2 (by rfl) (fun _ _ _ => id) ?_ (by assumption) ?_; rotate_left 1; (focus exact Z1u3)) | refine ul30 Z1u1 (by rfl) (fun _ _ _ => id) (by assumption) ?_); focus try simp only [Act.put, List.setIfInBounds_toArray, List.set_cons_zero, List.set_cons_succ]
            (first | (refine tl31 ?_ Z1u2 (by rfl) (fun _ _ _ => id) ?_ (by assumption) ?_; rotate_left 1; (focus exact Z1u3)) | refine ul31 Z1u1 (by rfl) (fun _ _ _ => id) (by assumption) ?_); focus try simp only [Act.put, List.setIfInBounds_toArray, List.set_cons_zero, List.set_cons_succ]
            refine wpAnyL_ready (rs := [32]) Z1u1 (by simp) (al32 (fun K hK => ?_) (AllReadyL.nil))
            focus go_simp
            refine hK.out _ _ (fun _ => ?_) (fun hHeld => ?_)
            · exact hHeld
            focus (have hHeld := hHeld (by decide); clear hK K; try simp only [Act.put, List.setIfInBounds_toArray, List.set_cons_zero, List.set_cons_succ])
            (first | (refine tl33 ?_ Z1u2 (by rfl) (fun _ _ _ => id) ?_ (by assumption) ?_; rotate_left 1; (focus exact Z1u3)) | refine ul33 Z1u1 (by rfl) (fun _ _ _ => id) (by assumption) ?_); focus try simp only [Act.put, List.setIfInBounds_toArray, List.set_cons_zero, List.set_cons_succ]
            (first | (refine tl34 ?_ Z1u2 (by rfl) (fun _ _ _ => id) ?_ (by assumption) ?_; rotate_left 1; (focus exact Z1u3)) | refine ul34 Z1u1 (by rfl) (fun _ _ _ => id) (by assumption) ?_); focus try simp only [Act.put, List.setIfInBounds_toArray, List.set_cons_zero, List.set_cons_succ]
            (first | (refine tl35 ?_ Z1u2 (by rfl) (fun _ _ _ => id) ?_ (by assumption) ?_; rotate_left 1; (focus exact Z1u3)) | refine ul35 Z1u1 (by rfl) (fun _ _ _ => id) (by assumption) ?_); focus try simp only [Act.put, List.setIfInBounds_toArray, List.set_cons_zero, List.set_cons_succ]
            refine wpAnyL_ready (rs := [36]) Z1u1 (by simp) (al36 (fun K hK => ?_) (AllReadyL.nil))
            focus go_simp
            refine hK.out _ _ (fun h => absurd rfl h) (fun _ => ?_)
            focus (clear hK K; try simp only [Act.put, List.setIfInBounds_toArray, List.set_cons_zero, List.set_cons_succ])
            refine wpAnyL_done Z1u1 ?_ _; rotate_left 1
            go_wp2
            go_ret
            exact ⟨rfl, hHeld.below⟩
          · have eV : ((j : Int) < (vars : Int)) = False := eq_false (by omega)
            have hjv : j < t.value.length := by have := HCL.out; omega
            have h2 : j - vars < t.limits.length := by have := HVL.out; omega
            obtain ⟨gV, cV, eV', _, _, x0, x1, _⟩ := rowQ_rd HT.out.value hjv
            obtain ⟨gL, cL, eL', _, _, y0, y1, _⟩ := rowQ_rd HT.out.limits h2
            have b3 : w.cell? ⟨tb, 3, none⟩ = some (.slice (some ⟨gV, 0, none⟩) t.value.length cV) := by rw [← eV']; exact blk_cell HT.out.box 3
            have b4 : w.cell? ⟨tb, 4, none⟩ = some (.slice (some ⟨gL, 0, none⟩) t.limits.length cL) := by rw [← eL']; exact blk_cell HT.out.box 4
            have fx := HW.out.fv j
            have fy := HW.out.fl (j - vars)
            obtain ⟨a, ha⟩ : ∃ a, rdQ t.value j = a := ⟨_, rfl⟩
            obtain ⟨b, hb⟩ : ∃ b, rdQ t.limits (j - vars) = b := ⟨_, rfl⟩
            rw [ha] at x0 x1 fx
            rw [hb] at y0 y1 fy
            have HA := Lib.hid ha
            have HB := Lib.hid hb
            have ew := wrapsub (show vars ≤ j by omega) (show j < 9223372036854775808 by have := HM.out; omega)
            have ew2 : IntKind.i64.wrap ((j : Int) - (vars : Int)) = ((j - vars : Nat) : Int) := by rw [IntKind.wrap_i64]; unfold wrap64 at ew; exact ew
            have HC := Lib.hid (show Cells [(⟨tb, 0, none⟩, .int .i64 vars), (⟨tb, 3, none⟩, .slice (some ⟨gV, 0, none⟩) t.value.length cV), (⟨tb, 4, none⟩, .slice (some ⟨gL, 0, none⟩) t.limits.length cL), (⟨gV, j * 2, none⟩, .int .i64 a.num), (⟨gV, j * 2 + 1, none⟩, .int .i64 a.den), (⟨gL, (j - vars) * 2, none⟩, .int .i64 b.num), (⟨gL, (j - vars) * 2 + 1, none⟩, .int .i64 b.den)] wr from ⟨c0, kcell HBR.out b3, kcell HBR.out b4, kcell HBR.out x0, kcell HBR.out x1, kcell HBR.out y0, kcell HBR.out y1, trivial⟩)
            clear ha hb x0 x1 y0 y1 b3 b4 eV' eL'
            by_cases hl : a < b
            · rw [if_pos (show goodQ vars t row j from .inr ⟨by rw [HX.out]; exact hn, .inr (by rw [HA.out, HB.out]; exact hl)⟩)] at hF
              obtain rfl : r = some j := hF.symm
              have HCmp := Lib.hid (cmp_c fx fy (-1) (cmpQ_lt hl))
              clear hF fc hp hn hl fx fy
              go_wp2_with fail
              refine (HS.out _).mono ?_
              rintro e w2 ⟨rfl, hb2⟩
              have HB2 := Lib.hid ((show Below w.heap.size w _ from (HBR.out.alloc HBR.out.size _)).trans (hb2.mono Z1u0))
              have HD0 := Lib.hid (show Hd _ w w.heap.size w2 from ⟨Nat.le_refl _, HC.out.keep (((Below.refl wr.heap.size wr).alloc (Nat.le_refl _) _).trans (hb2.mono (by simp))), HB2.out⟩)
              clear hb2 z0' z1' c0
              go_wp2_with fail
              refine wp_region_L 36 (Hd _ w w.heap.size) Z1u1 (HD0.out.drew) (fun hHeld => ?_)
              refine tl0 ?_ Z1u2 (by rfl) (fun _ _ _ => id) ?_ (by assumption) ?_; rotate_left 1; (focus exact Z1u3); focus try simp only [Act.put, List.setIfInBounds_toArray, List.set_cons_zero, List.set_cons_succ]
              refine tl1 ?_ Z1u2 (by rfl) (fun _ _ _ => id) ?_ (by assumption) ?_; rotate_left 1; (focus exact Z1u3); focus try simp only [Act.put, List.setIfInBounds_toArray, List.set_cons_zero, List.set_cons_succ]
              refine tl2 ?_ Z1u2 (by rfl) (fun _ _ _ => id) ?_ (by assumption) ?_; rotate_left 1; (focus exact Z1u3); focus try simp only [Act.put, List.setIfInBounds_toArray, List.set_cons_zero, List.set_cons_succ]
              (first | (refine tl3 ?_ Z1u2 (by rfl) (fun _ _ _ => id) ?_ (by assumption) ?_; rotate_left 1; (focus exact Z1u3)) | refine ul3 Z1u1 (by rfl) (fun _ _ _ => id) (by assumption) ?_); focus try simp only [Act.put, List.setIfInBounds_toArray, List.set_cons_zero, List.set_cons_succ]
              (first | (refine tl4 ?_ Z1u2 (by rfl) (fun _ _ _ => id) ?_ (by assumption) ?_; rotate_left 1; (focus exact Z1u3)) | refine ul4 Z1u1 (by rfl) (fun _ _ _ => id) (by assumption) ?_); focus try simp only [Act.put, List.setIfInBounds_toArray, List.set_cons_zero, List.set_cons_succ]
              (first | (refine tl5 ?_ Z1u2 (by rfl) (fun _ _ _ => id) ?_ (by assumption) ?_; rotate_left 1; (focus exact Z1u3)) | refine ul5 Z1u1 (by rfl) (fun _ _ _ => id) (by assumption) ?_); focus try simp only [Act.put, List.setIfInBounds_toArray, List.set_cons_zero, List.set_cons_succ]
              (first | (refine tl6 ?_ Z1u2 (by rfl) (fun _ _ _ => id) ?_ (by assumption) ?_; rotate_left 1; (focus exact Z1u3)) | refine ul6 Z1u1 (by rfl) (fun _ _ _ => id) (by assumption) ?_); focus try simp only [Act.put, List.setIfInBounds_toArray, List.set_cons_zero, List.set_cons_succ]
              (first | (refine tl7 ?_ Z1u2 (by rfl) (fun _ _ _ => id) ?_ (by assumption) ?_; rotate_left 1; (focus exact Z1u3)) | refine ul7 Z1u1 (by rfl) (fun _ _ _ => id) (by assumption) ?_); focus try simp only [Act.put, List.setIfInBounds_toArray, List.set_cons_zero, List.set_cons_succ]
              (first | (refine tl8 ?_ Z1u2 (by rfl) (fun _ _ _ => id) ?_ (by assumption) ?_; rotate_left 1; (focus exact Z1u3)) | refine ul8 Z1u1 (by rfl) (fun _ _ _ => id) (by assumption) ?_); focus try simp only [Act.put, List.setIfInBounds_toArray, List.set_cons_zero, List.set_cons_succ]
              (first | (refine tl9 ?_ Z1u2 (by rfl) (fun _ _ _ => id) ?_ (by assumption) ?_; rotate_left 1; (focus exact Z1u3)) | refine ul9 Z1u1 (by rfl) (fun _ _ _ => id) (by assumption) ?_); focus try simp only [Act.put, List.setIfInBounds_toArray, List.set_cons_zero, List.set_cons_succ]
              (first | (refine tl10 ?_ Z1u2 (by rfl) (fun _ _ _ => id) ?_ (by assumption) ?_; rotate_left 1; (focus exact Z1u3)) | refine ul10 Z1u1 (by rfl) (fun _ _ _ => id) (by assumption) ?_); focus try simp only [Act.put, List.setIfInBounds_toArray, List.set_cons_zero, List.set_cons_succ]
              (first | (refine tl11 ?_ Z1u2 (by rfl) (fun _ _ _ => id) ?_ (by assumption) ?_; rotate_left 1; (focus exact Z1u3)) | refine ul11 Z1u1 (by rfl) (fun _ _ _ => id) (by assumption) ?_); focus try simp only [Act.put, List.setIfInBounds_toArray, List.set_cons_zero, List.set_cons_succ]
              (first | (refine tl12 ?_ Z1u2 (by rfl) (fun _ _ _ => id) ?_ (by assumption) ?_; rotate_left 1; (focus exact Z1u3)) | refine ul12 Z1u1 (by rfl) (fun _ _ _ => id) (by assumption) ?_); focus try simp only [Act.put, List.setIfInBounds_toArray, List.set_cons_zero, List.set_cons_succ]
              (first | (refine tl13 ?_ Z1u2 (by rfl) (fun _ _ _ => id) ?_ (by assumption) ?_; rotate_left 1; (focus exact Z1u3)) | refine ul13 Z1u1 (by rfl) (fun _ _ _ => id) (by assumption) ?_); focus try simp only [Act.put, List.setIfInBounds_toArray, List.set_cons_zero, List.set_cons_succ]
              (first | (refine tl14 ?_ Z1u2 (by rfl) (fun _ _ _ => id) ?_ (by assumption) ?_; rotate_left 1; (focus exact Z1u3)) | refine ul14 Z1u1 (by rfl) (fun _ _ _ => id) (by assumption) ?_); focus try simp only [Act.put, List.setIfInBounds_toArray, List.set_cons_zero, List.set_cons_succ]
              (first | (refine tl15 ?_ Z1u2 (by rfl) (fun _ _ _ => id) ?_ (by assumption) ?_; rotate_left 1; (focus exact Z1u3)) | refine ul15 Z1u1 (by rfl) (fun _ _ _ => id) (by assumption) ?_); focus try simp only [Act.put, List.setIfInBounds_toArray, List.set_cons_zero, List.set_cons_succ]
              (first | (refine tl16 ?_ Z1u2 (by rfl) (fun _ _ _ => id) ?_ (by assumption) ?_; rotate_left 1; (focus exact Z1u3)) | refine ul16 Z1u1 (by rfl) (fun _ _ _ => id) (by assumption) ?_); focus try simp only [Act.put, List.setIfInBounds_toArray, List.set_cons_zero, List.set_cons_succ]
              (first | (refine tl17 ?_ Z1u2 (by rfl) (fun _ _ _ => id) ?_ (by assumption) ?_; rotate_left 1; (focus exact Z1u3)) | refine ul17 Z1u1 (by rfl) (fun _ _ _ => id) (by assumption) ?_); focus try simp only [Act.put, List.setIfInBounds_toArray, List.set_cons_zero, List.set_cons_succ]
              (first | (refine tl18 ?_ Z1u2 (by rfl) (fun _ _ _ => id) ?_ (by assumption) ?_; rotate_left 1; (focus exact Z1u3)) | refine ul18 Z1u1 (by rfl) (fun _ _ _ => id) (by assumption) ?_); focus try simp only [Act.put, List.setIfInBounds_toArray, List.set_cons_zero, List.set_cons_succ]
              (first | (refine tl19 ?_ Z1u2 (by rfl) (fun _ _ _ => id) ?_ (by assumption) ?_; rotate_left 1; (focus exact Z1u3)) | refine ul19 Z1u1 (by rfl) (fun _ _ _ => id) (by assumption) ?_); focus try simp only [Act.put, List.setIfInBounds_toArray, List.set_cons_zero, List.set_cons_succ]
              (first | (refine tl20 ?_ Z1u2 (by rfl) (fun _ _ _ => id) ?_ (by assumption) ?_; rotate_left 1; (focus exact Z1u3)) | refine ul20 Z1u1 (by rfl) (fun _ _ _ => id) (by assumption) ?_); focus try simp only [Act.put, List.setIfInBounds_toArray, List.set_cons_zero, List.set_cons_succ]
              (first | (refine tl21 ?_ Z1u2 (by rfl) (fun _ _ _ => id) ?_ (by assumption) ?_; rotate_left 1; (focus exact Z1u3)) | refine ul21 Z1u1 (by rfl) (fun _ _ _ => id) (by assumption) ?_); focus try simp only [Act.put, List.setIfInBounds_toArray, List.set_cons_zero, List.set_cons_succ]
              (first | (refine tl22 ?_ Z1u2 (by rfl) (fun _ _ _ => id) ?_ (by assumption) ?_; rotate_left 1; (focus exact Z1u3)) | refine ul22 Z1u1 (by rfl) (fun _ _ _ => id) (by assumption) ?_); focus try simp only [Act.put, List.setIfInBounds_toArray, List.set_cons_zero, List.set_cons_succ]
              (first | (refine tl23 ?_ Z1u2 (by rfl) (fun _ _ _ => id) ?_ (by assumption) ?_; rotate_left 1; (focus exact Z1u3)) | refine ul23 Z1u1 (by rfl) (fun _ _ _ => id) (by assumption) ?_); focus try simp only [Act.put, List.setIfInBounds_toArray, List.set_cons_zero, List.set_cons_succ]
              (first | (refine tl24 ?_ Z1u2 (by rfl) (fun _ _ _ => id) ?_ (by assumption) ?_; rotate_left 1; (focus exact Z1u3)) | refine ul24 Z1u1 (by rfl) (fun _ _ _ => id) (by assumption) ?_); focus try simp only [Act.put, List.setIfInBounds_toArray, List.set_cons_zero, List.set_cons_succ]
              (first | (refine tl25 ?_ Z1u2 (by rfl) (fun _ _ _ => id) ?_ (by assumption) ?_; rotate_left 1; (focus exact Z1u3)) | refine ul25 Z1u1 (by rfl) (fun _ _ _ => id) (by assumption) ?_); focus try simp only [Act.put, List.setIfInBounds_toArray, List.set_cons_zero, List.set_cons_succ]
              (first | (refine tl26 ?_ Z1u2 (by rfl) (fun _ _ _ => id) ?_ (by assumption) ?_; rotate_left 1; (focus exact Z1u3)) | refine ul26 Z1u1 (by rfl) (fun _ _ _ => id) (by assumption) ?_); focus try simp only [Act.put, List.setIfInBounds_toArray, List.set_cons_zero, List.set_cons_succ]
              (first | (refine tl27 ?_ Z1u2 (by rfl) (fun _ _ _ => id) ?_ (by assumption) ?_; rotate_left 1; (focus exact Z1u3)) | refine ul27 Z1u1 (by rfl) (fun _ _ _ => id) (by assumption) ?_); focus try simp only [Act.put, List.setIfInBounds_toArray, List.set_cons_zero, List.set_cons_succ]
              (first | (refine tl28 ?_ Z1u2 (by rfl) (fun _ _ _ => id) ?_ (by assumption) ?_; rotate_left 1; (focus exact Z1u3)) | refine ul28 Z1u1 (by rfl) (fun _ _ _ => id) (by assumption) ?_); focus try simp only [Act.put, List.setIfInBounds_toArray, List.set_cons_zero, List.set_cons_succ]
              (first | (refine tl29 ?_ Z1u2 (by rfl) (fun _ _ _ => id) ?_ (by assumption) ?_; rotate_left 1; (focus exact Z1u3)) | refine ul29 Z1u1 (by rfl) (fun _ _ _ => id) (by assumption) ?_); focus try simp only [Act.put, List.setIfInBounds_toArray, List.set_cons_zero, List.set_cons_succ]
              (first | (refine tl30 ?_ Z1u2 (by rfl) (fun _ _ _ => id) ?_ (by assumption) ?_; rotate_left 1; (focus exact Z1u3)) | refine ul30 Z1u1 (by rfl) (fun _ _ _ => id) (by assumption) ?_); focus try simp only [Act.put, List.setIfInBounds_toArray, List.set_cons_zero, List.set_cons_succ]
              (first | (refine tl31 ?_ Z1u2 (by rfl) (fun _ _ _ => id) ?_ (by assumption) ?_; rotate_left 1; (focus exact Z1u3)) | refine ul31 Z1u1 (by rfl) (fun _ _ _ => id) (by assumption) ?_); focus try simp only [Act.put, List.setIfInBounds_toArray, List.set_cons_zero, List.set_cons_succ]
              refine wpAnyL_ready (rs := [32]) Z1u1 (by simp) (al32 (fun K hK => ?_) (AllReadyL.nil))
              focus go_simp
              focus (refine (HCmp.out _).mono ?_; rintro e w2 ⟨rfl, hb2⟩; (try have HP := hp_keep HP hb2); (try have HL := rl_keep HL hb2); (try have HI := ri_keep HI hb2); (try have HT := tab_keep HT hb2))
              focus try simp only []
              refine hK.out _ _ (fun _ => ?_) (fun hHeld => ?_)
              · exact hHeld.keep hb2
              focus (have hHeld := hHeld (by decide); clear hK K; try simp only [Act.put, List.setIfInBounds_toArray, List.set_cons_zero, List.set_cons_succ])
              (first | (refine tl33 ?_ Z1u2 (by rfl) (fun _ _ _ => id) ?_ (by assumption) ?_; rotate_left 1; (focus exact Z1u3)) | refine ul33 Z1u1 (by rfl) (fun _ _ _ => id) (by assumption) ?_); focus try simp only [Act.put, List.setIfInBounds_toArray, List.set_cons_zero, List.set_cons_succ]
              (first | (refine tl34 ?_ Z1u2 (by rfl) (fun _ _ _ => id) ?_ (by assumption) ?_; rotate_left 1; (focus exact Z1u3)) | refine ul34 Z1u1 (by rfl) (fun _ _ _ => id) (by assumption) ?_); focus try simp only [Act.put, List.setIfInBounds_toArray, List.set_cons_zero, List.set_cons_succ]
              (first | (refine tl35 ?_ Z1u2 (by rfl) (fun _ _ _ => id) ?_ (by assumption) ?_; rotate_left 1; (focus exact Z1u3)) | refine ul35 Z1u1 (by rfl) (fun _ _ _ => id) (by assumption) ?_); focus try simp only [Act.put, List.setIfInBounds_toArray, List.set_cons_zero, List.set_cons_succ]
              refine wpAnyL_ready (rs := [36]) Z1u1 (by simp) (al36 (fun K hK => ?_) (AllReadyL.nil))
              focus go_simp
              refine hK.out _ _ (fun h => absurd rfl h) (fun _ => ?_)
              focus (clear hK K; try simp only [Act.put, List.setIfInBounds_toArray, List.set_cons_zero, List.set_cons_succ])
              refine wpAnyL_done Z1u1 ?_ _; rotate_left 1
              go_wp2
              go_ret
              exact ⟨rfl, hHeld.below⟩
            · rw [if_neg (show ¬ goodQ vars t row j by unfold goodQ; rw [HX.out, HA.out, HB.out]; rintro (h | ⟨_, h | h⟩); exact hp h; exact hv h; exact hl h)] at hF
              have HF := Lib.hid hF
              have HCmp := Lib.hid (cmp_c fx fy _ rfl)
              have hle := cmpQ_ge hl
              generalize cmpQ a b = cc at *
              clear hF fc hp hn hl fx fy
              go_wp2_with fail
              refine (HS.out _).mono ?_
              rintro e w2 ⟨rfl, hb2⟩
              have HB2 := Lib.hid ((show Below w.heap.size w _ from (HBR.out.alloc HBR.out.size _)).trans (hb2.mono Z1u0))
              have HD0 := Lib.hid (show Hd _ w w.heap.size w2 from ⟨Nat.le_refl _, HC.out.keep (((Below.refl wr.heap.size wr).alloc (Nat.le_refl _) _).trans (hb2.mono (by simp))), HB2.out⟩)
              clear hb2 z0' z1' c0
              go_wp2_with fail
              refine wp_region_L 36 (Hd _ w w.heap.size) Z1u1 (HD0.out.drew) (fun hHeld => ?_)
              refine tl0 ?_ Z1u2 (by rfl) (fun _ _ _ => id) ?_ (by assumption) ?_; rotate_left 1; (focus exact Z1u3); focus try simp only [Act.put, List.setIfInBounds_toArray, List.set_cons_zero, List.set_cons_succ]
              refine tl1 ?_ Z1u2 (by rfl) (fun _ _ _ => id) ?_ (by assumption) ?_; rotate_left 1; (focus exact Z1u3); focus try simp only [Act.put, List.setIfInBounds_toArray, List.set_cons_zero, List.set_cons_succ]
              refine tl2 ?_ Z1u2 (by rfl) (fun _ _ _ => id) ?_ (by assumption) ?_; rotate_left 1; (focus exact Z1u3); focus try simp only [Act.put, List.setIfInBounds_toArray, List.set_cons_zero, List.set_cons_succ]
              (first | (refine tl3 ?_ Z1u2 (by rfl) (fun _ _ _ => id) ?_ (by assumption) ?_; rotate_left 1; (focus exact Z1u3)) | refine ul3 Z1u1 (by rfl) (fun _ _ _ => id) (by assumption) ?_); focus try simp only [Act.put, List.setIfInBounds_toArray, List.set_cons_zero, List.set_cons_succ]
              (first | (refine tl4 ?_ Z1u2 (by rfl) (fun _ _ _ => id) ?_ (by assumption) ?_; rotate_left 1; (focus exact Z1u3)) | refine ul4 Z1u1 (by rfl) (fun _ _ _ => id) (by assumption) ?_); focus try simp only [Act.put, List.setIfInBounds_toArray, List.set_cons_zero, List.set_cons_succ]
              (first | (refine tl5 ?_ Z1u2 (by rfl) (fun _ _ _ => id) ?_ (by assumption) ?_; rotate_left 1; (focus exact Z1u3)) | refine ul5 Z1u1 (by rfl) (fun _ _ _ => id) (by assumption) ?_); focus try simp only [Act.put, List.setIfInBounds_toArray, List.set_cons_zero, List.set_cons_succ]
              (first | (refine tl6 ?_ Z1u2 (by rfl) (fun _ _ _ => id) ?_ (by assumption) ?_; rotate_left 1; (focus exact Z1u3)) | refine ul6 Z1u1 (by rfl) (fun _ _ _ => id) (by assumption) ?_); focus try simp only [Act.put, List.setIfInBounds_toArray, List.set_cons_zero, List.set_cons_succ]
              (first | (refine tl7 ?_ Z1u2 (by rfl) (fun _ _ _ => id) ?_ (by assumption) ?_; rotate_left 1; (focus exact Z1u3)) | refine ul7 Z1u1 (by rfl) (fun _ _ _ => id) (by assumption) ?_); focus try simp only [Act.put, List.setIfInBounds_toArray, List.set_cons_zero, List.set_cons_succ]
              (first | (refine tl8 ?_ Z1u2 (by rfl) (fun _ _ _ => id) ?_ (by assumption) ?_; rotate_left 1; (focus exact Z1u3)) | refine ul8 Z1u1 (by rfl) (fun _ _ _ => id) (by assumption) ?_); focus try simp only [Act.put, List.setIfInBounds_toArray, List.set_cons_zero, List.set_cons_succ]
              (first | (refine tl9 ?_ Z1u2 (by rfl) (fun _ _ _ => id) ?_ (by assumption) ?_; rotate_left 1; (focus exact Z1u3)) | refine ul9 Z1u1 (by rfl) (fun _ _ _ => id) (by assumption) ?_); focus try simp only [Act.put, List.setIfInBounds_toArray, List.set_cons_zero, List.set_cons_succ]
              (first | (refine tl10 ?_ Z1u2 (by rfl) (fun _ _ _ => id) ?_ (by assumption) ?_; rotate_left 1; (focus exact Z1u3)) | refine ul10 Z1u1 (by rfl) (fun _ _ _ => id) (by assumption) ?_); focus try simp only [Act.put, List.setIfInBounds_toArray, List.set_cons_zero, List.set_cons_succ]
              (first | (refine tl11 ?_ Z1u2 (by rfl) (fun _ _ _ => id) ?_ (by assumption) ?_; rotate_left 1; (focus exact Z1u3)) | refine ul11 Z1u1 (by rfl) (fun _ _ _ => id) (by assumption) ?_); focus try simp only [Act.put, List.setIfInBounds_toArray, List.set_cons_zero, List.set_cons_succ]
              (first | (refine tl12 ?_ Z1u2 (by rfl) (fun _ _ _ => id) ?_ (by assumption) ?_; rotate_left 1; (focus exact Z1u3)) | refine ul12 Z1u1 (by rfl) (fun _ _ _ => id) (by assumption) ?_); focus try simp only [Act.put, List.setIfInBounds_toArray, List.set_cons_zero, List.set_cons_succ]
              (first | (refine tl13 ?_ Z1u2 (by rfl) (fun _ _ _ => id) ?_ (by assumption) ?_; rotate_left 1; (focus exact Z1u3)) | refine ul13 Z1u1 (by rfl) (fun _ _ _ => id) (by assumption) ?_); focus try simp only [Act.put, List.setIfInBounds_toArray, List.set_cons_zero, List.set_cons_succ]
              (first | (refine tl14 ?_ Z1u2 (by rfl) (fun _ _ _ => id) ?_ (by assumption) ?_; rotate_left 1; (focus exact Z1u3)) | refine ul14 Z1u1 (by rfl) (fun _ _ _ => id) (by assumption) ?_); focus try simp only [Act.put, List.setIfInBounds_toArray, List.set_cons_zero, List.set_cons_succ]
              (first | (refine tl15 ?_ Z1u2 (by rfl) (fun _ _ _ => id) ?_ (by assumption) ?_; rotate_left 1; (focus exact Z1u3)) | refine ul15 Z1u1 (by rfl) (fun _ _ _ => id) (by assumption) ?_); focus try simp only [Act.put, List.setIfInBounds_toArray, List.set_cons_zero, List.set_cons_succ]
              (first | (refine tl16 ?_ Z1u2 (by rfl) (fun _ _ _ => id) ?_ (by assumption) ?_; rotate_left 1; (focus exact Z1u3)) | refine ul16 Z1u1 (by rfl) (fun _ _ _ => id) (by assumption) ?_); focus try simp only [Act.put, List.setIfInBounds_toArray, List.set_cons_zero, List.set_cons_succ]
              (first | (refine tl17 ?_ Z1u2 (by rfl) (fun _ _ _ => id) ?_ (by assumption) ?_; rotate_left 1; (focus exact Z1u3)) | refine ul17 Z1u1 (by rfl) (fun _ _ _ => id) (by assumption) ?_); focus try simp only [Act.put, List.setIfInBounds_toArray, List.set_cons_zero, List.set_cons_succ]
              (first | (refine tl18 ?_ Z1u2 (by rfl) (fun _ _ _ => id) ?_ (by assumption) ?_; rotate_left 1; (focus exact Z1u3)) | refine ul18 Z1u1 (by rfl) (fun _ _ _ => id) (by assumption) ?_); focus try simp only [Act.put, List.setIfInBounds_toArray, List.set_cons_zero, List.set_cons_succ]
              (first | (refine tl19 ?_ Z1u2 (by rfl) (fun _ _ _ => id) ?_ (by assumption) ?_; rotate_left 1; (focus exact Z1u3)) | refine ul19 Z1u1 (by rfl) (fun _ _ _ => id) (by assumption) ?_); focus try simp only [Act.put, List.setIfInBounds_toArray, List.set_cons_zero, List.set_cons_succ]
              (first | (refine tl20 ?_ Z1u2 (by rfl) (fun _ _ _ => id) ?_ (by assumption) ?_; rotate_left 1; (focus exact Z1u3)) | refine ul20 Z1u1 (by rfl) (fun _ _ _ => id) (by assumption) ?_); focus try simp only [Act.put, List.setIfInBounds_toArray, List.set_cons_zero, List.set_cons_succ]
              (first | (refine tl21 ?_ Z1u2 (by rfl) (fun _ _ _ => id) ?_ (by assumption) ?_; rotate_left 1; (focus exact Z1u3)) | refine ul21 Z1u1 (by rfl) (fun _ _ _ => id) (by assumption) ?_); focus try simp only [Act.put, List.setIfInBounds_toArray, List.set_cons_zero, List.set_cons_succ]
              (first | (refine tl22 ?_ Z1u2 (by rfl) (fun _ _ _ => id) ?_ (by assumption) ?_; rotate_left 1; (focus exact Z1u3)) | refine ul22 Z1u1 (by rfl) (fun _ _ _ => id) (by assumption) ?_); focus try simp only [Act.put, List.setIfInBounds_toArray, List.set_cons_zero, List.set_cons_succ]
              (first | (refine tl23 ?_ Z1u2 (by rfl) (fun _ _ _ => id) ?_ (by assumption) ?_; rotate_left 1; (focus exact Z1u3)) | refine ul23 Z1u1 (by rfl) (fun _ _ _ => id) (by assumption) ?_); focus try simp only [Act.put, List.setIfInBounds_toArray, List.set_cons_zero, List.set_cons_succ]
              (first | (refine tl24 ?_ Z1u2 (by rfl) (fun _ _ _ => id) ?_ (by assumption) ?_; rotate_left 1; (focus exact Z1u3)) | refine ul24 Z1u1 (by rfl) (fun _ _ _ => id) (by assumption) ?_); focus try simp only [Act.put, List.setIfInBounds_toArray, List.set_cons_zero, List.set_cons_succ]
              (first | (refine tl25 ?_ Z1u2 (by rfl) (fun _ _ _ => id) ?_ (by assumption) ?_; rotate_left 1; (focus exact Z1u3)) | refine ul25 Z1u1 (by rfl) (fun _ _ _ => id) (by assumption) ?_); focus try simp only [Act.put, List.setIfInBounds_toArray, List.set_cons_zero, List.set_cons_succ]
              (first | (refine tl26 ?_ Z1u2 (by rfl) (fun _ _ _ => id) ?_ (by assumption) ?_; rotate_left 1; (focus exact Z1u3)) | refine ul26 Z1u1 (by rfl) (fun _ _ _ => id) (by assumption) ?_); focus try simp only [Act.put, List.setIfInBounds_toArray, List.set_cons_zero, List.set_cons_succ]
              (first | (refine tl27 ?_ Z1u2 (by rfl) (fun _ _ _ => id) ?_ (by assumption) ?_; rotate_left 1; (focus exact Z1u3)) | refine ul27 Z1u1 (by rfl) (fun _ _ _ => id) (by assumption) ?_); focus try simp only [Act.put, List.setIfInBounds_toArray, List.set_cons_zero, List.set_cons_succ]
              (first | (refine tl28 ?_ Z1u2 (by rfl) (fun _ _ _ => id) ?_ (by assumption) ?_; rotate_left 1; (focus exact Z1u3)) | refine ul28 Z1u1 (by rfl) (fun _ _ _ => id) (by assumption) ?_); focus try simp only [Act.put, List.setIfInBounds_toArray, List.set_cons_zero, List.set_cons_succ]
              (first | (refine tl29 ?_ Z1u2 (by rfl) (fun _ _ _ => id) ?_ (by assumption) ?_; rotate_left 1; (focus exact Z1u3)) | refine ul29 Z1u1 (by rfl) (fun _ _ _ => id) (by assumption) ?_); focus try simp only [Act.put, List.setIfInBounds_toArray, List.set_cons_zero, List.set_cons_succ]
              (first | (refine tl30 ?_ Z1u2 (by rfl) (fun _ _ _ => id) ?_ (by assumption) ?_; rotate_left 1; (focus exact Z1u3)) | refine ul30 Z1u1 (by rfl) (fun _ _ _ => id) (by assumption) ?_); focus try simp only [Act.put, List.setIfInBounds_toArray, List.set_cons_zero, List.set_cons_succ]
              (first | (refine tl31 ?_ Z1u2 (by rfl) (fun _ _ _ => id) ?_ (by assumption) ?_; rotate_left 1; (focus exact Z1u3)) | refine ul31 Z1u1 (by rfl) (fun _ _ _ => id) (by assumption) ?_); focus try simp only [Act.put, List.setIfInBounds_toArray, List.set_cons_zero, List.set_cons_succ]
              refine wpAnyL_ready (rs := [32]) Z1u1 (by simp) (al32 (fun K hK => ?_) (AllReadyL.nil))
              focus go_simp
              focus (refine (HCmp.out _).mono ?_; rintro e w2 ⟨rfl, hb2⟩; (try have HP := hp_keep HP hb2); (try have HL := rl_keep HL hb2); (try have HI := ri_keep HI hb2); (try have HT := tab_keep HT hb2))
              focus try simp only []
              refine hK.out _ _ (fun _ => ?_) (fun hHeld => ?_)
              · exact hHeld.keep hb2
              focus (have hHeld := hHeld (by decide); clear hK K; try simp only [Act.put, List.setIfInBounds_toArray, List.set_cons_zero, List.set_cons_succ])
              (first | (refine tl33 ?_ Z1u2 (by rfl) (fun _ _ _ => id) ?_ (by assumption) ?_; rotate_left 1; (focus exact Z1u3)) | refine ul33 Z1u1 (by rfl) (fun _ _ _ => id) (by assumption) ?_); focus try simp only [Act.put, List.setIfInBounds_toArray, List.set_cons_zero, List.set_cons_succ]
              (first | (refine tl34 ?_ Z1u2 (by rfl) (fun _ _ _ => id) ?_ (by assumption) ?_; rotate_left 1; (focus exact Z1u3)) | refine ul34 Z1u1 (by rfl) (fun _ _ _ => id) (by assumption) ?_); focus try simp only [Act.put, List.setIfInBounds_toArray, List.set_cons_zero, List.set_cons_succ]
              (first | (refine tl35 ?_ Z1u2 (by rfl) (fun _ _ _ => id) ?_ (by assumption) ?_; rotate_left 1; (focus exact Z1u3)) | refine ul35 Z1u1 (by rfl) (fun _ _ _ => id) (by assumption) ?_); focus try simp only [Act.put, List.setIfInBounds_toArray, List.set_cons_zero, List.set_cons_succ]
              refine wpAnyL_ready (rs := [36]) Z1u1 (by simp) (al36 (fun K hK => ?_) (AllReadyL.nil))
              focus go_simp
              refine hK.out _ _ (fun h => absurd rfl h) (fun _ => ?_)
              focus (clear hK K; try simp only [Act.put, List.setIfInBounds_toArray, List.set_cons_zero, List.set_cons_succ])
              refine wpAnyL_done Z1u1 ?_ _; rotate_left 1
              go_wp2
              refine ⟨⟨j + 1, hjl, congrArg (Value.int .i64) EW.out, HF.out, hHeld.below⟩, ?_⟩
              rw [EW.out]
              simp only [intOf, Int.toNat_natCast]
              exact meas_lt hjl
        · rw [if_neg (show ¬ goodQ vars t row j by unfold goodQ; rw [HX.out]; rintro (h | ⟨h, _⟩); exact hp h; exact hn h)] at hF
          have HF := Lib.hid hF
          have HS := Lib.hid (sign_zero (sgne hp hn))
          clear hF fc hp hn
          go_wp2_with fail
          refine (HS.out _).mono ?_
          rintro e w2 ⟨rfl, hb2⟩
          have HB2 := Lib.hid ((show Below w.heap.size w _ from (HBR.out.alloc HBR.out.size _)).trans (hb2.mono Z1u0))
          have hd0 : Hd [(⟨tb, 0, none⟩, .int .i64 vars)] w w.heap.size w2 := ⟨Nat.le_refl _, (show Cells [(⟨tb, 0, none⟩, .int .i64 vars)] wr from ⟨c0, trivial⟩).keep (((Below.refl wr.heap.size wr).alloc (Nat.le_refl _) _).trans (hb2.mono (by simp))), HB2.out⟩
          clear hb2 z0' z1' c0
          go_wp2_with fail
          refine wp_region_L 36 (Hd _ w w.heap.size) Z1u1 (hd0.drew) (fun hHeld => ?_)
          refine tl0 ?_ Z1u2 (by rfl) (fun _ _ _ => id) ?_ (by assumption) ?_; rotate_left 1; (focus exact Z1u3); focus try simp only [Act.put, List.setIfInBounds_toArray, List.set_cons_zero, List.set_cons_succ]
          refine tl1 ?_ Z1u2 (by rfl) (fun _ _ _ => id) ?_ (by assumption) ?_; rotate_left 1; (focus exact Z1u3); focus try simp only [Act.put, List.setIfInBounds_toArray, List.set_cons_zero, List.set_cons_succ]
          refine tl2 ?_ Z1u2 (by rfl) (fun _ _ _ => id) ?_ (by assumption) ?_; rotate_left 1; (focus exact Z1u3); focus try simp only [Act.put, List.setIfInBounds_toArray, List.set_cons_zero, List.set_cons_succ]
          (first | (refine tl3 ?_ Z1u2 (by rfl) (fun _ _ _ => id) ?_ (by assumption) ?_; rotate_left 1; (focus exact Z1u3)) | refine ul3 Z1u1 (by rfl) (fun _ _ _ => id) (by assumption) ?_); focus try simp only [Act.put, List.setIfInBounds_toArray, List.set_cons_zero, List.set_cons_succ]
          (first | (refine tl4 ?_ Z1u2 (by rfl) (fun _ _ _ => id) ?_ (by assumption) ?_; rotate_left 1; (focus exact Z1u3)) | refine ul4 Z1u1 (by rfl) (fun _ _ _ => id) (by assumption) ?_); focus try simp only [Act.put, List.setIfInBounds_toArray, List.set_cons_zero, List.set_cons_succ]
          (first | (refine tl5 ?_ Z1u2 (by rfl) (fun _ _ _ => id) ?_ (by assumption) ?_; rotate_left 1; (focus exact Z1u3)) | refine ul5 Z1u1 (by rfl) (fun _ _ _ => id) (by assumption) ?_); focus try simp only [Act.put, List.setIfInBounds_toArray, List.set_cons_zero, List.set_cons_succ]
          (first | (refine tl6 ?_ Z1u2 (by rfl) (fun _ _ _ => id) ?_ (by assumption) ?_; rotate_left 1; (focus exact Z1u3)) | refine ul6 Z1u1 (by rfl) (fun _ _ _ => id) (by assumption) ?_); focus try simp only [Act.put, List.setIfInBounds_toArray, List.set_cons_zero, List.set_cons_succ]
          (first | (refine tl7 ?_ Z1u2 (by rfl) (fun _ _ _ => id) ?_ (by assumption) ?_; rotate_left 1; (focus exact Z1u3)) | refine ul7 Z1u1 (by rfl) (fun _ _ _ => id) (by assumption) ?_); focus try simp only [Act.put, List.setIfInBounds_toArray, List.set_cons_zero, List.set_cons_succ]
          (first | (refine tl8 ?_ Z1u2 (by rfl) (fun _ _ _ => id) ?_ (by assumption) ?_; rotate_left 1; (focus exact Z1u3)) | refine ul8 Z1u1 (by rfl) (fun _ _ _ => id) (by assumption) ?_); focus try simp only [Act.put, List.setIfInBounds_toArray, List.set_cons_zero, List.set_cons_succ]
          (first | (refine tl9 ?_ Z1u2 (by rfl) (fun _ _ _ => id) ?_ (by assumption) ?_; rotate_left 1; (focus exact Z1u3)) | refine ul9 Z1u1 (by rfl) (fun _ _ _ => id) (by assumption) ?_); focus try simp only [Act.put, List.setIfInBounds_toArray, List.set_cons_zero, List.set_cons_succ]
          (first | (refine tl10 ?_ Z1u2 (by rfl) (fun _ _ _ => id) ?_ (by assumption) ?_; rotate_left 1; (focus exact Z1u3)) | refine ul10 Z1u1 (by rfl) (fun _ _ _ => id) (by assumption) ?_); focus try simp only [Act.put, List.setIfInBounds_toArray, List.set_cons_zero, List.set_cons_succ]
          (first | (refine tl11 ?_ Z1u2 (by rfl) (fun _ _ _ => id) ?_ (by assumption) ?_; rotate_left 1; (focus exact Z1u3)) | refine ul11 Z1u1 (by rfl) (fun _ _ _ => id) (by assumption) ?_); focus try simp only [Act.put, List.setIfInBounds_toArray, List.set_cons_zero, List.set_cons_succ]
          (first | (refine tl12 ?_ Z1u2 (by rfl) (fun _ _ _ => id) ?_ (by assumption) ?_; rotate_left 1; (focus exact Z1u3)) | refine ul12 Z1u1 (by rfl) (fun _ _ _ => id) (by assumption) ?_); focus try simp only [Act.put, List.setIfInBounds_toArray, List.set_cons_zero, List.set_cons_succ]
          (first | (refine tl13 ?_ Z1u2 (by rfl) (fun _ _ _ => id) ?_ (by assumption) ?_; rotate_left 1; (focus exact Z1u3)) | refine ul13 Z1u1 (by rfl) (fun _ _ _ => id) (by assumption) ?_); focus try simp only [Act.put, List.setIfInBounds_toArray, List.set_cons_zero, List.set_cons_succ]
          (first | (refine tl14 ?_ Z1u2 (by rfl) (fun _ _ _ => id) ?_ (by assumption) ?_; rotate_left 1; (focus exact Z1u3)) | refine ul14 Z1u1 (by rfl) (fun _ _ _ => id) (by assumption) ?_); focus try simp only [Act.put, List.setIfInBounds_toArray, List.set_cons_zero, List.set_cons_succ]
          (first | (refine tl15 ?_ Z1u2 (by rfl) (fun _ _ _ => id) ?_ (by assumption) ?_; rotate_left 1; (focus exact Z1u3)) | refine ul15 Z1u1 (by rfl) (fun _ _ _ => id) (by assumption) ?_); focus try simp only [Act.put, List.setIfInBounds_toArray, List.set_cons_zero, List.set_cons_succ]
          (first | (refine tl16 ?_ Z1u2 (by rfl) (fun _ _ _ => id) ?_ (by assumption) ?_; rotate_left 1; (focus exact Z1u3)) | refine ul16 Z1u1 (by rfl) (fun _ _ _ => id) (by assumption) ?_); focus try simp only [Act.put, List.setIfInBounds_toArray, List.set_cons_zero, List.set_cons_succ]
          (first | (refine tl17 ?_ Z1u2 (by rfl) (fun _ _ _ => id) ?_ (by assumption) ?_; rotate_left 1; (focus exact Z1u3)) | refine ul17 Z1u1 (by rfl) (fun _ _ _ => id) (by assumption) ?_); focus try simp only [Act.put, List.setIfInBounds_toArray, List.set_cons_zero, List.set_cons_succ]
          (first | (refine tl18 ?_ Z1u2 (by rfl) (fun _ _ _ => id) ?_ (by assumption) ?_; rotate_left 1; (focus exact Z1u3)) | refine ul18 Z1u1 (by rfl) (fun _ _ _ => id) (by assumption) ?_); focus try simp only [Act.put, List.setIfInBounds_toArray, List.set_cons_zero, List.set_cons_succ]
          (first | (refine tl19 ?_ Z1u2 (by rfl) (fun _ _ _ => id) ?_ (by assumption) ?_; rotate_left 1; (focus exact Z1u3)) | refine ul19 Z1u1 (by rfl) (fun _ _ _ => id) (by assumption) ?_); focus try simp only [Act.put, List.setIfInBounds_toArray, List.set_cons_zero, List.set_cons_succ]
          (first | (refine tl20 ?_ Z1u2 (by rfl) (fun _ _ _ => id) ?_ (by assumption) ?_; rotate_left 1; (focus exact Z1u3)) | refine ul20 Z1u1 (by rfl) (fun _ _ _ => id) (by assumption) ?_); focus try simp only [Act.put, List.setIfInBounds_toArray, List.set_cons_zero, List.set_cons_succ]
          (first | (refine tl21 ?_ Z1u2 (by rfl) (fun _ _ _ => id) ?_ (by assumption) ?_; rotate_left 1; (focus exact Z1u3)) | refine ul21 Z1u1 (by rfl) (fun _ _ _ => id) (by assumption) ?_); focus try simp only [Act.put, List.setIfInBounds_toArray, List.set_cons_zero, List.set_cons_succ]
          (first | (refine tl22 ?_ Z1u2 (by rfl) (fun _ _ _ => id) ?_ (by assumption) ?_; rotate_left 1; (focus exact Z1u3)) | refine ul22 Z1u1 (by rfl) (fun _ _ _ => id) (by assumption) ?_); focus try simp only [Act.put, List.setIfInBounds_toArray, List.set_cons_zero, List.set_cons_succ]
          (first | (refine tl23 ?_ Z1u2 (by rfl) (fun _ _ _ => id) ?_ (by assumption) ?_; rotate_left 1; (focus exact Z1u3)) | refine ul23 Z1u1 (by rfl) (fun _ _ _ => id) (by assumption) ?_); focus try simp only [Act.put, List.setIfInBounds_toArray, List.set_cons_zero, List.set_cons_succ]
          (first | (refine tl24 ?_ Z1u2 (by rfl) (fun _ _ _ => id) ?_ (by assumption) ?_; rotate_left 1; (focus exact Z1u3)) | refine ul24 Z1u1 (by rfl) (fun _ _ _ => id) (by assumption) ?_); focus try simp only [Act.put, List.setIfInBounds_toArray, List.set_cons_zero, List.set_cons_succ]
          (first | (refine tl25 ?_ Z1u2 (by rfl) (fun _ _ _ => id) ?_ (by assumption) ?_; rotate_left 1; (focus exact Z1u3)) | refine ul25 Z1u1 (by rfl) (fun _ _ _ => id) (by assumption) ?_); focus try simp only [Act.put, List.setIfInBounds_toArray, List.set_cons_zero, List.set_cons_succ]
          (first | (refine tl26 ?_ Z1u2 (by rfl) (fun _ _ _ => id) ?_ (by assumption) ?_; rotate_left 1; (focus exact Z1u3)) | refine ul26 Z1u1 (by rfl) (fun _ _ _ => id) (by assumption) ?_); focus try simp only [Act.put, List.setIfInBounds_toArray, List.set_cons_zero, List.set_cons_succ]
          (first | (refine tl27 ?_ Z1u2 (by rfl) (fun _ _ _ => id) ?_ (by assumption) ?_; rotate_left 1; (focus exact Z1u3)) | refine ul27 Z1u1 (by rfl) (fun _ _ _ => id) (by assumption) ?_); focus try simp only [Act.put, List.setIfInBounds_toArray, List.set_cons_zero, List.set_cons_succ]
          (first | (refine tl28 ?_ Z1u2 (by rfl) (fun _ _ _ => id) ?_ (by assumption) ?_; rotate_left 1; (focus exact Z1u3)) | refine ul28 Z1u1 (by rfl) (fun _ _ _ => id) (by assumption) ?_); focus try simp only [Act.put, List.setIfInBounds_toArray, List.set_cons_zero, List.set_cons_succ]
          (first | (refine tl29 ?_ Z1u2 (by rfl) (fun _ _ _ => id) ?_ (by assumption) ?_; rotate_left 1; (focus exact Z1u3)) | refine ul29 Z1u1 (by rfl) (fun _ _ _ => id) (by assumption) ?_); focus try simp only [Act.put, List.setIfInBounds_toArray, List.set_cons_zero, List.set_cons_succ]
          (first | (refine tl30 ?_ Z1u2 (by rfl) (fun _ _ _ => id) ?_ (by assumption) ?_; rotate_left 1; (focus exact Z1u3)) | refine ul30 Z1u1 (by rfl) (fun _ _ _ => id) (by assumption) ?_); focus try simp only [Act.put, List.setIfInBounds_toArray, List.set_cons_zero, List.set_cons_succ]
          (first | (refine tl31 ?_ Z1u2 (by rfl) (fun _ _ _ => id) ?_ (by assumption) ?_; rotate_left 1; (focus exact Z1u3)) | refine ul31 Z1u1 (by rfl) (fun _ _ _ => id) (by assumption) ?_); focus try simp only [Act.put, List.setIfInBounds_toArray, List.set_cons_zero, List.set_cons_succ]
          refine wpAnyL_ready (rs := [32]) Z1u1 (by simp) (al32 (fun K hK => ?_) (AllReadyL.nil))
          focus go_simp
          refine hK.out _ _ (fun _ => ?_) (fun hHeld => ?_)
          · exact hHeld
          focus (have hHeld := hHeld (by decide); clear hK K; try simp only [Act.put, List.setIfInBounds_toArray, List.set_cons_zero, List.set_cons_succ])
          (first | (refine tl33 ?_ Z1u2 (by rfl) (fun _ _ _ => id) ?_ (by assumption) ?_; rotate_left 1; (focus exact Z1u3)) | refine ul33 Z1u1 (by rfl) (fun _ _ _ => id) (by assumption) ?_); focus try simp only [Act.put, List.setIfInBounds_toArray, List.set_cons_zero, List.set_cons_succ]
          (first | (refine tl34 ?_ Z1u2 (by rfl) (fun _ _ _ => id) ?_ (by assumption) ?_; rotate_left 1; (focus exact Z1u3)) | refine ul34 Z1u1 (by rfl) (fun _ _ _ => id) (by assumption) ?_); focus try simp only [Act.put, List.setIfInBounds_toArray, List.set_cons_zero, List.set_cons_succ]
          (first | (refine tl35 ?_ Z1u2 (by rfl) (fun _ _ _ => id) ?_ (by assumption) ?_; rotate_left 1; (focus exact Z1u3)) | refine ul35 Z1u1 (by rfl) (fun _ _ _ => id) (by assumption) ?_); focus try simp only [Act.put, List.setIfInBounds_toArray, List.set_cons_zero, List.set_cons_succ]
          refine wpAnyL_ready (rs := [36]) Z1u1 (by simp) (al36 (fun K hK => ?_) (AllReadyL.nil))
          focus go_simp
          refine hK.out _ _ (fun h => absurd rfl h) (fun _ => ?_)
          focus (clear hK K; try simp only [Act.put, List.setIfInBounds_toArray, List.set_cons_zero, List.set_cons_succ])
          refine wpAnyL_done Z1u1 ?_ _; rotate_left 1
          go_wp2
          refine ⟨⟨j + 1, hjl, congrArg (Value.int .i64) EW.out, HF.out, hHeld.below⟩, ?_⟩
          rw [EW.out]
          simp only [intOf, Int.toNat_natCast]
          exact meas_lt hjl
    · have hjj : j = row.length := by omega
      subst hjj
      rw [Nat.sub_self, helpsF] at hF
      have HBR := Lib.hid hbr
      clear hbr
      subst hF
      go_wp2
      go_ret
      exact ⟨rfl, HBR.out⟩

end Go.Proofs.Ytdkbnbebioflaaa.Ln
