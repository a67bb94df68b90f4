/- Contracts of num: Make and its closure. -/
import Derived.Test.YtdkbnbebioflaaaTk
import Derived.Test.YtdkbnbebioflaaaNumG
namespace Go.Proofs
theorem Z2h0 {p : Prop} (h : p := by kernel_rfl) : p := h
theorem Z2h1 {p : Prop} (h : p := by (simp [go_sem, hb, hc, bl, cl]; done)) : p := h
theorem Z2h2 {p : Prop} (h : p := by decide +kernel) : p := h
theorem Z2h3 {p : Prop} (h : p := by (intro w_ hSw; (try dsimp only at hSw); go_simp; all_goals (with_reducible rfl); done)) : p := h
theorem Z2h7 {p : Prop} (h : p := by simp [go_sem, hb, hc, bl, cl]) : p := h
theorem Z2h4 {p : Prop} (h : p := by (first | (simp [go_sem, hb, hc, bl, cl]; done) | exact ⟨keepcell (by assumption) Z2h7, keepcell (by assumption) Z2h7⟩ | exact ⟨keepset (by omega) (keepset (by omega) (keepcell (by assumption) Z2h7)), keepset (by omega) (keepset (by omega) (keepcell (by assumption) Z2h7))⟩)) : p := h
theorem Z2h5 {p : Prop} (h : p := by repeat (first | exact Below.refl _ _ | with_reducible assumption | refine Below.alloc ?_ (by first | exact Nat.le_refl _ | (simp; done) | (simp; omega) | omega) _ | refine Below.setCell ?_ (by first | exact Nat.le_refl _ | (simp; done) | (simp; omega) | omega) _ | refine Below.drew ?_ | refine bdrewN ?_ _)) : p := h
theorem Z2h6 {p : Prop} (h : p := by first | exact Nat.le_refl _ | (simp; done) | (simp; omega) | omega) : p := h
end Go.Proofs
namespace Go.Proofs.Ytdkbnbebioflaaa.Num
open Go.RowKit
set_option linter.unusedVariables false
set_option linter.unusedSimpArgs false

/-- A rat in lowest terms, of any numbers. -/
def lowP (p q : Int) : Int := if sg p q = true then -(sz p / Int.gcd p q) else sz p / Int.gcd p q
def lowQ (p q : Int) : Int := sz q / Int.gcd p q

theorem gcd_pos {p q : Int} (hq : q ≠ 0) : 0 < (Int.gcd p q : Int) := by
  have := Int.gcd_pos_of_ne_zero_right p hq
  omega

theorem wv_low1 (p q : Int) (hp : In64 p) (hq : q ≠ 0) : WV (lowP p q) (sg p q) 0 (sz p / Int.gcd p q) := by
  have g0 := gcd_pos (p := p) hq
  have a1 := sz_nonneg p
  have a2 := sz_le hp.1 hp.2
  have := Int.ediv_nonneg a1 (Int.le_of_lt g0)
  have := Int.ediv_le_self (Int.gcd p q : Int) a1
  refine ⟨by omega, by omega, by omega, by omega, ?_⟩
  unfold lowP
  simp

theorem wv_low2 (p q : Int) (hp : In64 q) (hq : q ≠ 0) : WV (lowQ p q) false 0 (sz q / Int.gcd p q) := by
  have g0 := gcd_pos (p := p) hq
  have a1 := sz_nonneg q
  have a2 := sz_le hp.1 hp.2
  have := Int.ediv_nonneg a1 (Int.le_of_lt g0)
  have := Int.ediv_le_self (Int.gcd p q : Int) a1
  refine ⟨by omega, by omega, by omega, by omega, ?_⟩
  unfold lowQ
  simp

theorem sg_spell (p q : Int) : (!(decide (p < 0) == decide (q < 0))) = sg p q := by
  unfold sg
  cases decide (p < 0) <;> cases decide (q < 0) <;> rfl
theorem div_spell {a g : Int} (ha : 0 ≤ a) (ha2 : a < 18446744073709551616) (hg : 0 < g) : IntKind.u64.wrap (a.tdiv g) = a / g := by
  rw [Int.tdiv_eq_ediv_of_nonneg ha, IntKind.wrap_u64]
  have := Int.ediv_nonneg ha (Int.le_of_lt hg)
  have := Int.ediv_le_self g ha
  omega

set_option maxHeartbeats 1000000 in
theorem make1_ok (p q : Int) (b c : Nat) (w : World) (hp : In64 p) (hq : In64 q) (h0 : q ≠ 0) (hb : w.cell? ⟨b, 0, none⟩ = some (.int .i64 p)) (hc : w.cell? ⟨c, 0, none⟩ = some (.int .i64 q)) (bl : b < w.heap.size) (cl : c < w.heap.size)
    (hP : In64 (lowP p q)) (hQ : In64 (lowQ p q)) :
    Calls Try.prog 13 #[.pointer (some ⟨b, 0, none⟩), .pointer (some ⟨c, 0, none⟩)] w fun e w' => e = .returned (RV (lowP p q) (lowQ p q)) ∧ Below w.heap.size w w' := by
  have s1 := Lib.hid (fun W0 => size_any p W0 hp.1 hp.2)
  have s2 := Lib.hid (fun W0 => size_any q W0 hq.1 hq.2)
  have a1 := sz_nonneg p
  have a2 := sz_le hp.1 hp.2
  have b1 := sz_nonneg q
  have b2 := sz_le hq.1 hq.2
  have gg := Lib.hid (fun W0 => gcd_any (sz p) (sz q) W0 a1 (by omega) b1 (by omega))
  have g0 := gcd_pos (p := p) h0
  have g1 := gcd_le a1 b1 (by omega) (by omega)
  rw [gcd_sz] at gg g1
  have hn : ¬ (Int.gcd p q : Int) = 0 := by omega
  have hn2 : ((Int.gcd p q : Int) == 0) = false := beq_eq_false_iff_ne.2 hn
  have rr := Lib.hid (fun W0 => rat_ok (wv_low1 p q hp h0) (wv_low2 p q hq h0) hP hQ W0)
  have hsg := sg_spell p q
  have hd1 := div_spell (g := (Int.gcd p q : Int)) a1 (by omega) g0
  have hd2 := div_spell (g := (Int.gcd p q : Int)) b1 (by omega) g0
  clear hp hq h0 hP hQ
  generalize (Int.gcd p q : Int) = g at *
  go_enter Try.func13, Try.ntmps13
  go_wp2
  refine wp_region_held_drew (S := (fun w' => w'.cell? ⟨b, 0, none⟩ = some (.int .i64 p) ∧ w'.cell? ⟨c, 0, none⟩ = some (.int .i64 q))) Z2h0 ?_ (fun hHeld => ?_)
  · exact Z2h1
  iterate 2 ((first | refine tk0 ?_ Z2h2 (by rfl) (fun _ _ _ => id) ?_ (by assumption) ?_ | refine tk2 ?_ Z2h2 (by rfl) (fun _ _ _ => id) ?_ (by assumption) ?_); (rotate_left 1); (focus exact Z2h3); focus try simp only [Act.put, List.setIfInBounds_toArray, List.set_cons_zero, List.set_cons_succ])
  refine wpAnyH_ready (rs := [1]) Z2h0 (by simp) (ac1 (fun K hK => ?_) (AllReadyH.nil))
  focus go_simp
  focus (refine (s1.out _).mono ?_; rintro e w1 ⟨rfl, rfl⟩)
  focus try simp only []
  refine hK.out _ _ ?_ (fun hHeld => ?_)
  · exact Z2h1
  focus clear hK K; try simp only [Act.put, List.setIfInBounds_toArray, List.set_cons_zero, List.set_cons_succ]
  refine wpAnyH_ready (rs := [3]) Z2h0 (by simp) (ac3 (fun K hK => ?_) (AllReadyH.nil))
  focus go_simp
  focus (refine (s2.out _).mono ?_; rintro e w1 ⟨rfl, rfl⟩)
  focus try simp only []
  refine hK.out _ _ ?_ (fun hHeld => ?_)
  · exact Z2h1
  focus clear hK K; try simp only [Act.put, List.setIfInBounds_toArray, List.set_cons_zero, List.set_cons_succ]
  refine wpAnyH_ready (rs := [4]) Z2h0 (by simp) (ac4 (fun K hK => ?_) (AllReadyH.nil))
  focus go_simp
  focus (refine (gg.out _).mono ?_; rintro e w1 ⟨rfl, n, rfl⟩)
  focus try simp only []
  refine hK.out _ _ ?_ (fun hHeld => ?_)
  · exact Z2h1
  focus clear hK K; try simp only [Act.put, List.setIfInBounds_toArray, List.set_cons_zero, List.set_cons_succ]
  refine tk5 ?_ Z2h0 (by rfl) (fun _ _ _ => id) ?_ (by assumption) ?_; rotate_left 1; (focus exact Z2h3); focus try simp only [Act.put, List.setIfInBounds_toArray, List.set_cons_zero, List.set_cons_succ]
  refine wpAnyH_done Z2h0 ?_ _; rotate_left 1
  go_wp2
  refine wp_region_held_drew (S := (fun w' => w'.cell? ⟨b, 0, none⟩ = some (.int .i64 p) ∧ w'.cell? ⟨c, 0, none⟩ = some (.int .i64 q))) Z2h0 ?_ (fun hHeld => ?_)
  · exact Z2h4
  iterate 9 ((first | refine tk0 ?_ Z2h2 (by rfl) (fun _ _ _ => id) ?_ (by assumption) ?_ | refine tk1 ?_ Z2h2 (by rfl) (fun _ _ _ => id) ?_ (by assumption) ?_ | refine tk2 ?_ Z2h2 (by rfl) (fun _ _ _ => id) ?_ (by assumption) ?_ | refine tk3 ?_ Z2h2 (by rfl) (fun _ _ _ => id) ?_ (by assumption) ?_ | refine tk4 ?_ Z2h2 (by rfl) (fun _ _ _ => id) ?_ (by assumption) ?_ | refine tk5 ?_ Z2h2 (by rfl) (fun _ _ _ => id) ?_ (by assumption) ?_ | refine tk7 ?_ Z2h2 (by rfl) (fun _ _ _ => id) ?_ (by assumption) ?_ | refine tk10 ?_ Z2h2 (by rfl) (fun _ _ _ => id) ?_ (by assumption) ?_ | refine tk12 ?_ Z2h2 (by rfl) (fun _ _ _ => id) ?_ (by assumption) ?_); (rotate_left 1); (focus exact Z2h3); focus try simp only [Act.put, List.setIfInBounds_toArray, List.set_cons_zero, List.set_cons_succ])
  refine wpAnyH_ready (rs := [6]) Z2h0 (by simp) (ac6 (fun K hK => ?_) (AllReadyH.nil))
  focus go_simp
  focus (refine (s1.out _).mono ?_; rintro e w1 ⟨rfl, rfl⟩)
  focus try simp only []
  refine hK.out _ _ ?_ (fun hHeld => ?_)
  · exact Z2h4
  focus clear hK K; try simp only [Act.put, List.setIfInBounds_toArray, List.set_cons_zero, List.set_cons_succ]
  iterate 2 ((first | refine tk8 ?_ Z2h2 (by rfl) (fun _ _ _ => id) ?_ (by assumption) ?_ | refine tk9 ?_ Z2h2 (by rfl) (fun _ _ _ => id) ?_ (by assumption) ?_); (rotate_left 1); (focus exact Z2h3); focus try simp only [Act.put, List.setIfInBounds_toArray, List.set_cons_zero, List.set_cons_succ])
  refine wpAnyH_ready (rs := [11]) Z2h0 (by simp) (ac11 (fun K hK => ?_) (AllReadyH.nil))
  focus go_simp
  focus (refine (s2.out _).mono ?_; rintro e w1 ⟨rfl, rfl⟩)
  focus try simp only []
  refine hK.out _ _ ?_ (fun hHeld => ?_)
  · exact Z2h4
  focus clear hK K; try simp only [Act.put, List.setIfInBounds_toArray, List.set_cons_zero, List.set_cons_succ]
  iterate 2 ((first | refine tk13 ?_ Z2h2 (by rfl) (fun _ _ _ => id) ?_ (by assumption) ?_ | refine tk14 ?_ Z2h2 (by rfl) (fun _ _ _ => id) ?_ (by assumption) ?_); (rotate_left 1); (focus exact Z2h3); focus try simp only [Act.put, List.setIfInBounds_toArray, List.set_cons_zero, List.set_cons_succ])
  refine wpAnyH_ready (rs := [15]) Z2h0 (by simp) (ac15 (fun K hK => ?_) (AllReadyH.nil))
  focus go_simp
  focus (refine (rr.out _).mono ?_; rintro e w1 ⟨rfl, hb1⟩; obtain ⟨g1, g2, g3⟩ := bgrow hb1)
  focus try simp only []
  refine hK.out _ _ ?_ (fun hHeld => ?_)
  · exact Z2h4
  focus clear hK K; try simp only [Act.put, List.setIfInBounds_toArray, List.set_cons_zero, List.set_cons_succ]
  refine wpAnyH_ready (rs := [16]) Z2h0 (by simp) (ac16 (fun K hK => ?_) (AllReadyH.nil))
  focus go_simp
  refine hK.out _ _ ?_ (fun hHeld => ?_)
  · exact Z2h4
  focus clear hK K; try simp only [Act.put, List.setIfInBounds_toArray, List.set_cons_zero, List.set_cons_succ]
  refine wpAnyH_done Z2h0 ?_ _; rotate_left 1
  go_wp2
  have hbw : Below w.heap.size w w1 := Below.trans (b := (w.alloc (Obj.cells #[Value.int IntKind.i64 0, Value.int IntKind.i64 0] 29)).drewN (1 + n + 1)) Z2h5 (hb1.mono Z2h6)
  have k0 : w1.cell? ⟨w.heap.size, 0, none⟩ = some (.int .i64 0) := by rw [g1 _ _ Z2h6]; simp [go_sem]
  have k1 : w1.cell? ⟨w.heap.size, 1, none⟩ = some (.int .i64 0) := by rw [g1 _ _ Z2h6]; simp [go_sem]
  exact bodyPost_ret (v := RV (lowP p q) (lowQ p q)) (by simp [results, Try.results13, go_sem, k0, k1]) rfl ⟨rfl, Z2h5⟩
set_option maxHeartbeats 1000000 in
theorem make1_no (p q : Int) (b c : Nat) (w : World) (hp : In64 p) (hq : In64 q) (h0 : q ≠ 0) (hb : w.cell? ⟨b, 0, none⟩ = some (.int .i64 p)) (hc : w.cell? ⟨c, 0, none⟩ = some (.int .i64 q)) (bl : b < w.heap.size) (cl : c < w.heap.size)
    (hPQ : ¬ (In64 (lowP p q) ∧ In64 (lowQ p q))) :
    Calls Try.prog 13 #[.pointer (some ⟨b, 0, none⟩), .pointer (some ⟨c, 0, none⟩)] w fun e w' => e = .panicked LargeP ∧ Below w.heap.size w w' := by
  have s1 := Lib.hid (fun W0 => size_any p W0 hp.1 hp.2)
  have s2 := Lib.hid (fun W0 => size_any q W0 hq.1 hq.2)
  have a1 := sz_nonneg p
  have a2 := sz_le hp.1 hp.2
  have b1 := sz_nonneg q
  have b2 := sz_le hq.1 hq.2
  have gg := Lib.hid (fun W0 => gcd_any (sz p) (sz q) W0 a1 (by omega) b1 (by omega))
  have g0 := gcd_pos (p := p) h0
  have g1 := gcd_le a1 b1 (by omega) (by omega)
  rw [gcd_sz] at gg g1
  have hn : ¬ (Int.gcd p q : Int) = 0 := by omega
  have hn2 : ((Int.gcd p q : Int) == 0) = false := beq_eq_false_iff_ne.2 hn
  have rr := Lib.hid (fun W0 => rat_no (wv_low1 p q hp h0) (wv_low2 p q hq h0) hPQ W0)
  have hsg := sg_spell p q
  have hd1 := div_spell (g := (Int.gcd p q : Int)) a1 (by omega) g0
  have hd2 := div_spell (g := (Int.gcd p q : Int)) b1 (by omega) g0
  clear hp hq h0 hPQ
  generalize (Int.gcd p q : Int) = g at *
  go_enter Try.func13, Try.ntmps13
  go_wp2
  refine wp_region_held_drew (S := (fun w' => w'.cell? ⟨b, 0, none⟩ = some (.int .i64 p) ∧ w'.cell? ⟨c, 0, none⟩ = some (.int .i64 q))) Z2h0 ?_ (fun hHeld => ?_)
  · exact Z2h1
  iterate 2 ((first | refine tk0 ?_ Z2h2 (by rfl) (fun _ _ _ => id) ?_ (by assumption) ?_ | refine tk2 ?_ Z2h2 (by rfl) (fun _ _ _ => id) ?_ (by assumption) ?_); (rotate_left 1); (focus exact Z2h3); focus try simp only [Act.put, List.setIfInBounds_toArray, List.set_cons_zero, List.set_cons_succ])
  refine wpAnyH_ready (rs := [1]) Z2h0 (by simp) (ac1 (fun K hK => ?_) (AllReadyH.nil))
  focus go_simp
  focus (refine (s1.out _).mono ?_; rintro e w1 ⟨rfl, rfl⟩)
  focus try simp only []
  refine hK.out _ _ ?_ (fun hHeld => ?_)
  · exact Z2h1
  focus clear hK K; try simp only [Act.put, List.setIfInBounds_toArray, List.set_cons_zero, List.set_cons_succ]
  refine wpAnyH_ready (rs := [3]) Z2h0 (by simp) (ac3 (fun K hK => ?_) (AllReadyH.nil))
  focus go_simp
  focus (refine (s2.out _).mono ?_; rintro e w1 ⟨rfl, rfl⟩)
  focus try simp only []
  refine hK.out _ _ ?_ (fun hHeld => ?_)
  · exact Z2h1
  focus clear hK K; try simp only [Act.put, List.setIfInBounds_toArray, List.set_cons_zero, List.set_cons_succ]
  refine wpAnyH_ready (rs := [4]) Z2h0 (by simp) (ac4 (fun K hK => ?_) (AllReadyH.nil))
  focus go_simp
  focus (refine (gg.out _).mono ?_; rintro e w1 ⟨rfl, n, rfl⟩)
  focus try simp only []
  refine hK.out _ _ ?_ (fun hHeld => ?_)
  · exact Z2h1
  focus clear hK K; try simp only [Act.put, List.setIfInBounds_toArray, List.set_cons_zero, List.set_cons_succ]
  refine tk5 ?_ Z2h0 (by rfl) (fun _ _ _ => id) ?_ (by assumption) ?_; rotate_left 1; (focus exact Z2h3); focus try simp only [Act.put, List.setIfInBounds_toArray, List.set_cons_zero, List.set_cons_succ]
  refine wpAnyH_done Z2h0 ?_ _; rotate_left 1
  go_wp2
  refine wp_region_held_drew (S := (fun w' => w'.cell? ⟨b, 0, none⟩ = some (.int .i64 p) ∧ w'.cell? ⟨c, 0, none⟩ = some (.int .i64 q))) Z2h0 ?_ (fun hHeld => ?_)
  · exact Z2h4
  iterate 9 ((first | refine tk0 ?_ Z2h2 (by rfl) (fun _ _ _ => id) ?_ (by assumption) ?_ | refine tk1 ?_ Z2h2 (by rfl) (fun _ _ _ => id) ?_ (by assumption) ?_ | refine tk2 ?_ Z2h2 (by rfl) (fun _ _ _ => id) ?_ (by assumption) ?_ | refine tk3 ?_ Z2h2 (by rfl) (fun _ _ _ => id) ?_ (by assumption) ?_ | refine tk4 ?_ Z2h2 (by rfl) (fun _ _ _ => id) ?_ (by assumption) ?_ | refine tk5 ?_ Z2h2 (by rfl) (fun _ _ _ => id) ?_ (by assumption) ?_ | refine tk7 ?_ Z2h2 (by rfl) (fun _ _ _ => id) ?_ (by assumption) ?_ | refine tk10 ?_ Z2h2 (by rfl) (fun _ _ _ => id) ?_ (by assumption) ?_ | refine tk12 ?_ Z2h2 (by rfl) (fun _ _ _ => id) ?_ (by assumption) ?_); (rotate_left 1); (focus exact Z2h3); focus try simp only [Act.put, List.setIfInBounds_toArray, List.set_cons_zero, List.set_cons_succ])
  refine wpAnyH_ready (rs := [6]) Z2h0 (by simp) (ac6 (fun K hK => ?_) (AllReadyH.nil))
  focus go_simp
  focus (refine (s1.out _).mono ?_; rintro e w1 ⟨rfl, rfl⟩)
  focus try simp only []
  refine hK.out _ _ ?_ (fun hHeld => ?_)
  · exact Z2h4
  focus clear hK K; try simp only [Act.put, List.setIfInBounds_toArray, List.set_cons_zero, List.set_cons_succ]
  iterate 2 ((first | refine tk8 ?_ Z2h2 (by rfl) (fun _ _ _ => id) ?_ (by assumption) ?_ | refine tk9 ?_ Z2h2 (by rfl) (fun _ _ _ => id) ?_ (by assumption) ?_); (rotate_left 1); (focus exact Z2h3); focus try simp only [Act.put, List.setIfInBounds_toArray, List.set_cons_zero, List.set_cons_succ])
  refine wpAnyH_ready (rs := [11]) Z2h0 (by simp) (ac11 (fun K hK => ?_) (AllReadyH.nil))
  focus go_simp
  focus (refine (s2.out _).mono ?_; rintro e w1 ⟨rfl, rfl⟩)
  focus try simp only []
  refine hK.out _ _ ?_ (fun hHeld => ?_)
  · exact Z2h4
  focus clear hK K; try simp only [Act.put, List.setIfInBounds_toArray, List.set_cons_zero, List.set_cons_succ]
  iterate 2 ((first | refine tk13 ?_ Z2h2 (by rfl) (fun _ _ _ => id) ?_ (by assumption) ?_ | refine tk14 ?_ Z2h2 (by rfl) (fun _ _ _ => id) ?_ (by assumption) ?_); (rotate_left 1); (focus exact Z2h3); focus try simp only [Act.put, List.setIfInBounds_toArray, List.set_cons_zero, List.set_cons_succ])
  refine wpAnyH_ready (rs := [15]) Z2h0 (by simp) (ac15 (fun K hK => ?_) (AllReadyH.nil))
  focus go_simp
  · (refine (rr.out _).mono ?_; rintro e w1 ⟨rfl, hb1⟩; exact ⟨rfl, rfl, Below.trans (b := (w.alloc (Obj.cells #[Value.int IntKind.i64 0, Value.int IntKind.i64 0] 29)).drewN (1 + n + 1)) Z2h5 (hb1.mono Z2h6)⟩)

end Go.Proofs.Ytdkbnbebioflaaa.Num
