import Derived.Test.YtdkbnbebioflaaaTk
import Derived.Test.YtdkbnbebioflaaaNumD
section
/- Contracts of num: rat, Make and its closure. -/
namespace Go.Proofs
theorem Z2d0 {p : Prop} (h : p := by repeat (first | exact Below.refl _ _ | with_reducible assumption | refine Below.alloc ?_ (by first | exact Nat.le_refl _ | (simp; done) | (simp; omega) | omega) _ | refine Below.setCell ?_ (by first | exact Nat.le_refl _ | (simp; done) | (simp; omega) | omega) _ | refine Below.drew ?_ | refine bdrewN ?_ _)) : p := h
end Go.Proofs
namespace Go.Proofs.Ytdkbnbebioflaaa.Num
open Go.RowKit
set_option linter.unusedVariables false
set_option linter.unusedSimpArgs false

@[reducible, go_sem] def RV (p q : Int) : Value := .agg #[.int .i64 p, .int .i64 q]

set_option maxHeartbeats 1000000 in
theorem rat_ok {x y : Int} {b h l b2 h2 l2} (hw : WV x b h l) (hw2 : WV y b2 h2 l2) (hx : In64 x) (hy : In64 y) (w : World) :
    Calls Try.prog 16 #[W b h l, W b2 h2 l2] w fun e w' => e = .returned (RV x y) ∧ Below w.heap.size w w' := by
  have p1 := Lib.hid (fun W0 => int64_fits hw hx W0)
  have p2 := Lib.hid (fun W0 => int64_fits hw2 hy W0)
  clear hw hw2 hx hy
  unfold W at *
  go_enter Try.func16, Try.ntmps16
  go_wp2
  go_region_held3 (fun w' => w'.cell? ⟨w.heap.size, 0, none⟩ = some (.bool b) ∧ w'.cell? ⟨w.heap.size, 1, none⟩ = some (.int .u64 h) ∧ w'.cell? ⟨w.heap.size, 2, none⟩ = some (.int .u64 l) ∧ w'.cell? ⟨w.heap.size + 1, 0, none⟩ = some (.bool b2) ∧ w'.cell? ⟨w.heap.size + 1, 1, none⟩ = some (.int .u64 h2) ∧ w'.cell? ⟨w.heap.size + 1, 2, none⟩ = some (.int .u64 l2))
    (first | (simp [go_sem]; done))
    (first | ((with_reducible refine (p1.out _).mono ?_); rintro e w1 ⟨rfl, rfl⟩) | ((with_reducible refine (p2.out _).mono ?_); rintro e w2 ⟨rfl, rfl⟩))
  go_wp2
  exact bodyPost_ret (v := RV x y) (by simp [results, Try.results16, go_sem, RV]) rfl ⟨rfl, Z2d0⟩

set_option maxHeartbeats 1000000 in
theorem rat_no1 {x : Int} {b h l b2 h2 l2} (hw : WV x b h l) (hx : ¬ In64 x) (w : World) :
    Calls Try.prog 16 #[W b h l, W b2 h2 l2] w fun e w' => e = .panicked LargeP ∧ Below w.heap.size w w' := by
  have p1 := Lib.hid (fun W0 => int64_large hw hx W0)
  clear hw hx
  unfold W at *
  go_enter Try.func16, Try.ntmps16
  go_wp2
  refine wp_region_held_drew (S := (fun w' => w'.cell? ⟨w.heap.size, 0, none⟩ = some (.bool b) ∧ w'.cell? ⟨w.heap.size, 1, none⟩ = some (.int .u64 h) ∧ w'.cell? ⟨w.heap.size, 2, none⟩ = some (.int .u64 l) ∧ w'.cell? ⟨w.heap.size + 1, 0, none⟩ = some (.bool b2) ∧ w'.cell? ⟨w.heap.size + 1, 1, none⟩ = some (.int .u64 h2) ∧ w'.cell? ⟨w.heap.size + 1, 2, none⟩ = some (.int .u64 l2))) (by kernel_rfl) ?_ (fun hHeld => ?_)
  · (simp [go_sem]; done)
  iterate 2 (first | refine tk0.go ?_ | refine tk2.go ?_)
  refine wpAnyH_ready (rs := [1]) (by kernel_rfl) (by simp) (ac1 (fun K hK => ?_) (AllReadyH.nil))
  focus go_simp
  · (refine (p1.out _).mono ?_; rintro e w1 ⟨rfl, rfl⟩; exact ⟨rfl, rfl, by first | exact Z2d0 | exact Below.drew Z2d0⟩)

set_option maxHeartbeats 1000000 in
theorem rat_no2 {x y : Int} {b h l b2 h2 l2} (hw : WV x b h l) (hw2 : WV y b2 h2 l2) (hx : In64 x) (hy : ¬ In64 y) (w : World) :
    Calls Try.prog 16 #[W b h l, W b2 h2 l2] w fun e w' => e = .panicked LargeP ∧ Below w.heap.size w w' := by
  have p1 := Lib.hid (fun W0 => int64_fits hw hx W0)
  have p2 := Lib.hid (fun W0 => int64_large hw2 hy W0)
  clear hw hw2 hx hy
  unfold W at *
  go_enter Try.func16, Try.ntmps16
  go_wp2
  refine wp_region_held_drew (S := (fun w' => w'.cell? ⟨w.heap.size, 0, none⟩ = some (.bool b) ∧ w'.cell? ⟨w.heap.size, 1, none⟩ = some (.int .u64 h) ∧ w'.cell? ⟨w.heap.size, 2, none⟩ = some (.int .u64 l) ∧ w'.cell? ⟨w.heap.size + 1, 0, none⟩ = some (.bool b2) ∧ w'.cell? ⟨w.heap.size + 1, 1, none⟩ = some (.int .u64 h2) ∧ w'.cell? ⟨w.heap.size + 1, 2, none⟩ = some (.int .u64 l2))) (by kernel_rfl) ?_ (fun hHeld => ?_)
  · (simp [go_sem]; done)
  iterate 2 (first | refine tk0.go ?_ | refine tk2.go ?_)
  refine wpAnyH_ready (rs := [1]) (by kernel_rfl) (by simp) (ac1 (fun K hK => ?_) (AllReadyH.nil))
  focus go_simp
  focus (refine (p1.out _).mono ?_; rintro e w1 ⟨rfl, rfl⟩)
  focus try simp only []
  refine hK.out _ _ ?_ (fun hHeld => ?_)
  · (simp [go_sem]; done)
  focus clear hK K; try simp only [Act.put, List.setIfInBounds_toArray, List.set_cons_zero, List.set_cons_succ]
  refine wpAnyH_ready (rs := [3]) (by kernel_rfl) (by simp) (ac3 (fun K hK => ?_) (AllReadyH.nil))
  focus go_simp
  · (refine (p2.out _).mono ?_; rintro e w1 ⟨rfl, rfl⟩; exact ⟨rfl, rfl, by first | exact Z2d0 | exact Below.drew Z2d0⟩)

theorem rat_no {x y : Int} {b h l b2 h2 l2} (hw : WV x b h l) (hw2 : WV y b2 h2 l2) (hxy : ¬ (In64 x ∧ In64 y)) (w : World) :
    Calls Try.prog 16 #[W b h l, W b2 h2 l2] w fun e w' => e = .panicked LargeP ∧ Below w.heap.size w w' := by
  by_cases hx : In64 x
  · exact rat_no2 hw hw2 hx (fun hy => hxy ⟨hx, hy⟩) w
  · exact rat_no1 hw hx w
end Go.Proofs.Ytdkbnbebioflaaa.Num
end

section
/- Contracts of num: Make and its closure. -/
namespace Go.Proofs
theorem Z2h0 {p : Prop} (h : p := by kernel_rfl) : p := h
theorem Z2h1 {p : Prop} (h : p := by (simp [go_sem, hb, hc, bl, cl]; done)) : p := h
theorem Z2h5 {p : Prop} (h : p := by simp [go_sem, hb, hc, bl, cl]) : p := h
theorem Z2h2 {p : Prop} (h : p := by (first | (simp [go_sem, hb, hc, bl, cl]; done) | exact ⟨keepcell (by assumption) Z2h5, keepcell (by assumption) Z2h5⟩ | exact ⟨keepset (by omega) (keepset (by omega) (keepcell (by assumption) Z2h5)), keepset (by omega) (keepset (by omega) (keepcell (by assumption) Z2h5))⟩)) : p := h
theorem Z2h3 {p : Prop} (h : p := by repeat (first | exact Below.refl _ _ | with_reducible assumption | refine Below.alloc ?_ (by first | exact Nat.le_refl _ | (simp; done) | (simp; omega) | omega) _ | refine Below.setCell ?_ (by first | exact Nat.le_refl _ | (simp; done) | (simp; omega) | omega) _ | refine Below.drew ?_ | refine bdrewN ?_ _)) : p := h
theorem Z2h4 {p : Prop} (h : p := by first | exact Nat.le_refl _ | (simp; done) | (simp; omega) | omega) : p := h
end Go.Proofs
namespace Go.Proofs.Ytdkbnbebioflaaa.Num
open Go.RowKit
set_option linter.unusedVariables false
set_option linter.unusedSimpArgs false

/-- A rat in lowest terms, of any numbers. -/
def lowP (p q : Int) : Int := if sg p q = true then -(sz p / Int.gcd p q) else sz p / Int.gcd p q
def lowQ (p q : Int) : Int := sz q / Int.gcd p q

theorem gcd_pos {p q : Int} (hq : q ≠ 0) : 0 < (Int.gcd p q : Int) := by
  have := Int.gcd_pos_of_ne_zero_right p hq
  omega

theorem wv_low1 (p q : Int) (hp : In64 p) (hq : q ≠ 0) : WV (lowP p q) (sg p q) 0 (sz p / Int.gcd p q) := by
  have g0 := gcd_pos (p := p) hq
  have a1 := sz_nonneg p
  have a2 := sz_le hp.1 hp.2
  have := Int.ediv_nonneg a1 (Int.le_of_lt g0)
  have := Int.ediv_le_self (Int.gcd p q : Int) a1
  refine ⟨by omega, by omega, by omega, by omega, ?_⟩
  unfold lowP
  simp

theorem wv_low2 (p q : Int) (hp : In64 q) (hq : q ≠ 0) : WV (lowQ p q) false 0 (sz q / Int.gcd p q) := by
  have g0 := gcd_pos (p := p) hq
  have a1 := sz_nonneg q
  have a2 := sz_le hp.1 hp.2
  have := Int.ediv_nonneg a1 (Int.le_of_lt g0)
  have := Int.ediv_le_self (Int.gcd p q : Int) a1
  refine ⟨by omega, by omega, by omega, by omega, ?_⟩
  unfold lowQ
  simp

theorem sg_spell (p q : Int) : (!(decide (p < 0) == decide (q < 0))) = sg p q := by
  unfold sg
  cases decide (p < 0) <;> cases decide (q < 0) <;> rfl
theorem div_spell {a g : Int} (ha : 0 ≤ a) (ha2 : a < 18446744073709551616) (hg : 0 < g) : IntKind.u64.wrap (a.tdiv g) = a / g := by
  rw [Int.tdiv_eq_ediv_of_nonneg ha, IntKind.wrap_u64]
  have := Int.ediv_nonneg ha (Int.le_of_lt hg)
  have := Int.ediv_le_self g ha
  omega

set_option maxHeartbeats 1000000 in
theorem make1_ok (p q : Int) (b c : Nat) (w : World) (hp : In64 p) (hq : In64 q) (h0 : q ≠ 0) (hb : w.cell? ⟨b, 0, none⟩ = some (.int .i64 p)) (hc : w.cell? ⟨c, 0, none⟩ = some (.int .i64 q)) (bl : b < w.heap.size) (cl : c < w.heap.size)
    (hP : In64 (lowP p q)) (hQ : In64 (lowQ p q)) :
    Calls Try.prog 13 #[.pointer (some ⟨b, 0, none⟩), .pointer (some ⟨c, 0, none⟩)] w fun e w' => e = .returned (RV (lowP p q) (lowQ p q)) ∧ Below w.heap.size w w' := by
  have s1 := Lib.hid (fun W0 => size_any p W0 hp.1 hp.2)
  have s2 := Lib.hid (fun W0 => size_any q W0 hq.1 hq.2)
  have a1 := sz_nonneg p
  have a2 := sz_le hp.1 hp.2
  have b1 := sz_nonneg q
  have b2 := sz_le hq.1 hq.2
  have gg := Lib.hid (fun W0 => gcd_any (sz p) (sz q) W0 a1 (by omega) b1 (by omega))
  have g0 := gcd_pos (p := p) h0
  have g1 := gcd_le a1 b1 (by omega) (by omega)
  rw [gcd_sz] at gg g1
  have hn : ¬ (Int.gcd p q : Int) = 0 := by omega
  have hn2 : ((Int.gcd p q : Int) == 0) = false := beq_eq_false_iff_ne.2 hn
  have rr := Lib.hid (fun W0 => rat_ok (wv_low1 p q hp h0) (wv_low2 p q hq h0) hP hQ W0)
  have hsg := sg_spell p q
  have hd1 := div_spell (g := (Int.gcd p q : Int)) a1 (by omega) g0
  have hd2 := div_spell (g := (Int.gcd p q : Int)) b1 (by omega) g0
  clear hp hq h0 hP hQ
  generalize (Int.gcd p q : Int) = g at *
  go_enter Try.func13, Try.ntmps13
  go_wp2
  refine wp_region_held_drew (S := (fun w' => w'.cell? ⟨b, 0, none⟩ = some (.int .i64 p) ∧ w'.cell? ⟨c, 0, none⟩ = some (.int .i64 q))) Z2h0 ?_ (fun hHeld => ?_)
  · exact Z2h1
  iterate 2 (first | refine tk0.go ?_ | refine tk2.go ?_)
  refine wpAnyH_ready (rs := [1]) Z2h0 (by simp) (ac1 (fun K hK => ?_) (AllReadyH.nil))
  focus go_simp
  focus (refine (s1.out _).mono ?_; rintro e w1 ⟨rfl, rfl⟩)
  focus try simp only []
  refine hK.out _ _ ?_ (fun hHeld => ?_)
  · exact Z2h1
  focus clear hK K; try simp only [Act.put, List.setIfInBounds_toArray, List.set_cons_zero, List.set_cons_succ]
  refine wpAnyH_ready (rs := [3]) Z2h0 (by simp) (ac3 (fun K hK => ?_) (AllReadyH.nil))
  focus go_simp
  focus (refine (s2.out _).mono ?_; rintro e w1 ⟨rfl, rfl⟩)
  focus try simp only []
  refine hK.out _ _ ?_ (fun hHeld => ?_)
  · exact Z2h1
  focus clear hK K; try simp only [Act.put, List.setIfInBounds_toArray, List.set_cons_zero, List.set_cons_succ]
  refine wpAnyH_ready (rs := [4]) Z2h0 (by simp) (ac4 (fun K hK => ?_) (AllReadyH.nil))
  focus go_simp
  focus (refine (gg.out _).mono ?_; rintro e w1 ⟨rfl, n, rfl⟩)
  focus try simp only []
  refine hK.out _ _ ?_ (fun hHeld => ?_)
  · exact Z2h1
  focus clear hK K; try simp only [Act.put, List.setIfInBounds_toArray, List.set_cons_zero, List.set_cons_succ]
  refine tk5.go ?_
  refine wpAnyH_done Z2h0 ?_ _; rotate_left 1
  go_wp2
  refine wp_region_held_drew (S := (fun w' => w'.cell? ⟨b, 0, none⟩ = some (.int .i64 p) ∧ w'.cell? ⟨c, 0, none⟩ = some (.int .i64 q))) Z2h0 ?_ (fun hHeld => ?_)
  · exact Z2h2
  iterate 9 (first | refine tk0.go ?_ | refine tk1.go ?_ | refine tk2.go ?_ | refine tk3.go ?_ | refine tk4.go ?_ | refine tk5.go ?_ | refine tk7.go ?_ | refine tk10.go ?_ | refine tk12.go ?_)
  refine wpAnyH_ready (rs := [6]) Z2h0 (by simp) (ac6 (fun K hK => ?_) (AllReadyH.nil))
  focus go_simp
  focus (refine (s1.out _).mono ?_; rintro e w1 ⟨rfl, rfl⟩)
  focus try simp only []
  refine hK.out _ _ ?_ (fun hHeld => ?_)
  · exact Z2h2
  focus clear hK K; try simp only [Act.put, List.setIfInBounds_toArray, List.set_cons_zero, List.set_cons_succ]
  iterate 2 (first | refine tk8.go ?_ | refine tk9.go ?_)
  refine wpAnyH_ready (rs := [11]) Z2h0 (by simp) (ac11 (fun K hK => ?_) (AllReadyH.nil))
  focus go_simp
  focus (refine (s2.out _).mono ?_; rintro e w1 ⟨rfl, rfl⟩)
  focus try simp only []
  refine hK.out _ _ ?_ (fun hHeld => ?_)
  · exact Z2h2
  focus clear hK K; try simp only [Act.put, List.setIfInBounds_toArray, List.set_cons_zero, List.set_cons_succ]
  iterate 2 (first | refine tk13.go ?_ | refine tk14.go ?_)
  refine wpAnyH_ready (rs := [15]) Z2h0 (by simp) (ac15 (fun K hK => ?_) (AllReadyH.nil))
  focus go_simp
  focus (refine (rr.out _).mono ?_; rintro e w1 ⟨rfl, hb1⟩; obtain ⟨g1, g2, g3⟩ := bgrow hb1)
  focus try simp only []
  refine hK.out _ _ ?_ (fun hHeld => ?_)
  · exact Z2h2
  focus clear hK K; try simp only [Act.put, List.setIfInBounds_toArray, List.set_cons_zero, List.set_cons_succ]
  refine wpAnyH_ready (rs := [16]) Z2h0 (by simp) (ac16 (fun K hK => ?_) (AllReadyH.nil))
  focus go_simp
  refine hK.out _ _ ?_ (fun hHeld => ?_)
  · exact Z2h2
  focus clear hK K; try simp only [Act.put, List.setIfInBounds_toArray, List.set_cons_zero, List.set_cons_succ]
  refine wpAnyH_done Z2h0 ?_ _; rotate_left 1
  go_wp2
  have hbw : Below w.heap.size w w1 := Below.trans (b := (w.alloc (Obj.cells #[Value.int IntKind.i64 0, Value.int IntKind.i64 0] 29)).drewN (1 + n + 1)) Z2h3 (hb1.mono Z2h4)
  have k0 : w1.cell? ⟨w.heap.size, 0, none⟩ = some (.int .i64 0) := by rw [g1 _ _ Z2h4]; simp [go_sem]
  have k1 : w1.cell? ⟨w.heap.size, 1, none⟩ = some (.int .i64 0) := by rw [g1 _ _ Z2h4]; simp [go_sem]
  exact bodyPost_ret (v := RV (lowP p q) (lowQ p q)) (by simp [results, Try.results13, go_sem, k0, k1]) rfl ⟨rfl, Z2h3⟩
set_option maxHeartbeats 1000000 in
theorem make1_no (p q : Int) (b c : Nat) (w : World) (hp : In64 p) (hq : In64 q) (h0 : q ≠ 0) (hb : w.cell? ⟨b, 0, none⟩ = some (.int .i64 p)) (hc : w.cell? ⟨c, 0, none⟩ = some (.int .i64 q)) (bl : b < w.heap.size) (cl : c < w.heap.size)
    (hPQ : ¬ (In64 (lowP p q) ∧ In64 (lowQ p q))) :
    Calls Try.prog 13 #[.pointer (some ⟨b, 0, none⟩), .pointer (some ⟨c, 0, none⟩)] w fun e w' => e = .panicked LargeP ∧ Below w.heap.size w w' := by
  have s1 := Lib.hid (fun W0 => size_any p W0 hp.1 hp.2)
  have s2 := Lib.hid (fun W0 => size_any q W0 hq.1 hq.2)
  have a1 := sz_nonneg p
  have a2 := sz_le hp.1 hp.2
  have b1 := sz_nonneg q
  have b2 := sz_le hq.1 hq.2
  have gg := Lib.hid (fun W0 => gcd_any (sz p) (sz q) W0 a1 (by omega) b1 (by omega))
  have g0 := gcd_pos (p := p) h0
  have g1 := gcd_le a1 b1 (by omega) (by omega)
  rw [gcd_sz] at gg g1
  have hn : ¬ (Int.gcd p q : Int) = 0 := by omega
  have hn2 : ((Int.gcd p q : Int) == 0) = false := beq_eq_false_iff_ne.2 hn
  have rr := Lib.hid (fun W0 => rat_no (wv_low1 p q hp h0) (wv_low2 p q hq h0) hPQ W0)
  have hsg := sg_spell p q
  have hd1 := div_spell (g := (Int.gcd p q : Int)) a1 (by omega) g0
  have hd2 := div_spell (g := (Int.gcd p q : Int)) b1 (by omega) g0
  clear hp hq h0 hPQ
  generalize (Int.gcd p q : Int) = g at *
  go_enter Try.func13, Try.ntmps13
  go_wp2
  refine wp_region_held_drew (S := (fun w' => w'.cell? ⟨b, 0, none⟩ = some (.int .i64 p) ∧ w'.cell? ⟨c, 0, none⟩ = some (.int .i64 q))) Z2h0 ?_ (fun hHeld => ?_)
  · exact Z2h1
  iterate 2 (first | refine tk0.go ?_ | refine tk2.go ?_)
  refine wpAnyH_ready (rs := [1]) Z2h0 (by simp) (ac1 (fun K hK => ?_) (AllReadyH.nil))
  focus go_simp
  focus (refine (s1.out _).mono ?_; rintro e w1 ⟨rfl, rfl⟩)
  focus try simp only []
  refine hK.out _ _ ?_ (fun hHeld => ?_)
  · exact Z2h1
  focus clear hK K; try simp only [Act.put, List.setIfInBounds_toArray, List.set_cons_zero, List.set_cons_succ]
  refine wpAnyH_ready (rs := [3]) Z2h0 (by simp) (ac3 (fun K hK => ?_) (AllReadyH.nil))
  focus go_simp
  focus (refine (s2.out _).mono ?_; rintro e w1 ⟨rfl, rfl⟩)
  focus try simp only []
  refine hK.out _ _ ?_ (fun hHeld => ?_)
  · exact Z2h1
  focus clear hK K; try simp only [Act.put, List.setIfInBounds_toArray, List.set_cons_zero, List.set_cons_succ]
  refine wpAnyH_ready (rs := [4]) Z2h0 (by simp) (ac4 (fun K hK => ?_) (AllReadyH.nil))
  focus go_simp
  focus (refine (gg.out _).mono ?_; rintro e w1 ⟨rfl, n, rfl⟩)
  focus try simp only []
  refine hK.out _ _ ?_ (fun hHeld => ?_)
  · exact Z2h1
  focus clear hK K; try simp only [Act.put, List.setIfInBounds_toArray, List.set_cons_zero, List.set_cons_succ]
  refine tk5.go ?_
  refine wpAnyH_done Z2h0 ?_ _; rotate_left 1
  go_wp2
  refine wp_region_held_drew (S := (fun w' => w'.cell? ⟨b, 0, none⟩ = some (.int .i64 p) ∧ w'.cell? ⟨c, 0, none⟩ = some (.int .i64 q))) Z2h0 ?_ (fun hHeld => ?_)
  · exact Z2h2
  iterate 9 (first | refine tk0.go ?_ | refine tk1.go ?_ | refine tk2.go ?_ | refine tk3.go ?_ | refine tk4.go ?_ | refine tk5.go ?_ | refine tk7.go ?_ | refine tk10.go ?_ | refine tk12.go ?_)
  refine wpAnyH_ready (rs := [6]) Z2h0 (by simp) (ac6 (fun K hK => ?_) (AllReadyH.nil))
  focus go_simp
  focus (refine (s1.out _).mono ?_; rintro e w1 ⟨rfl, rfl⟩)
  focus try simp only []
  refine hK.out _ _ ?_ (fun hHeld => ?_)
  · exact Z2h2
  focus clear hK K; try simp only [Act.put, List.setIfInBounds_toArray, List.set_cons_zero, List.set_cons_succ]
  iterate 2 (first | refine tk8.go ?_ | refine tk9.go ?_)
  refine wpAnyH_ready (rs := [11]) Z2h0 (by simp) (ac11 (fun K hK => ?_) (AllReadyH.nil))
  focus go_simp
  focus (refine (s2.out _).mono ?_; rintro e w1 ⟨rfl, rfl⟩)
  focus try simp only []
  refine hK.out _ _ ?_ (fun hHeld => ?_)
  · exact Z2h2
  focus clear hK K; try simp only [Act.put, List.setIfInBounds_toArray, List.set_cons_zero, List.set_cons_succ]
  iterate 2 (first | refine tk13.go ?_ | refine tk14.go ?_)
  refine wpAnyH_ready (rs := [15]) Z2h0 (by simp) (ac15 (fun K hK => ?_) (AllReadyH.nil))
  focus go_simp
  · (refine (rr.out _).mono ?_; rintro e w1 ⟨rfl, hb1⟩; exact ⟨rfl, rfl, Below.trans (b := (w.alloc (Obj.cells #[Value.int IntKind.i64 0, Value.int IntKind.i64 0] 29)).drewN (1 + n + 1)) Z2h3 (hb1.mono Z2h4)⟩)

end Go.Proofs.Ytdkbnbebioflaaa.Num
end

section
/- Contracts of num: Make. -/
namespace Go.Proofs
theorem Z2i0 {p : Prop} (h : p := by repeat (first | exact Below.refl _ _ | with_reducible assumption | refine Below.alloc ?_ (by first | exact Nat.le_refl _ | (simp; done) | (simp; omega) | omega) _ | refine Below.setCell ?_ (by first | exact Nat.le_refl _ | (simp; done) | (simp; omega) | omega) _ | refine Below.drew ?_ | refine bdrewN ?_ _)) : p := h
theorem Z2i1 {p : Prop} (h : p := by first | exact Nat.le_refl _ | (simp; done) | (simp; omega) | omega) : p := h
end Go.Proofs
namespace Go.Proofs.Ytdkbnbebioflaaa.Num
open Go.RowKit
set_option linter.unusedVariables false
set_option linter.unusedSimpArgs false

instance (a : Int) : Decidable (In64 a) := inferInstanceAs (Decidable (_ ∧ _))

/-- The right rat that is p / q, and whether it fits. -/
def mk (p q : Int) : Int × Int × Bool := if q = 0 then (0, 0, false) else if In64 (lowP p q) ∧ In64 (lowQ p q) then (lowP p q, lowQ p q, true) else (0, 0, false)

@[reducible, go_sem] def RB (r : Int × Int × Bool) : Value := .tuple #[RV r.1 r.2.1, .bool r.2.2]

theorem cf_make1 (args : Array Value) (w : World) : (callFunc 13 args).run Try.prog w = .ok (.enter 13 args) w := by kernel_rfl

set_option maxHeartbeats 1000000 in
theorem Make_any (p q : Int) (w : World) (hp : In64 p) (hq : In64 q) :
    Calls Try.prog 8 #[.int .i64 p, .int .i64 q] w fun e w' => e = .returned (RB (mk p q)) ∧ Below w.heap.size w w' := by
  have hmf := run_makeFunc
  by_cases h0 : q = 0
  · subst h0
    have hm : mk p 0 = (0, 0, false) := if_pos rfl
    rw [hm]
    clear hm
    go_enter Try.func8, Try.ntmps8
    go_wp2
    exact bodyPost_ret (v := RB (0, 0, false)) (by simp [results, Try.results8, go_sem, RB]) rfl ⟨rfl, Z2i0⟩
  · have e0 : (q == 0) = false := beq_eq_false_iff_ne.2 h0
    by_cases hPQ : In64 (lowP p q) ∧ In64 (lowQ p q)
    · have hm : mk p q = (lowP p q, lowQ p q, true) := by unfold mk; rw [if_neg h0, if_pos hPQ]
      rw [hm]
      clear hm
      have ff := Lib.hid (fun (W0 : World) (b c : Nat) (hb : W0.cell? ⟨b, 0, none⟩ = some (.int .i64 p)) (hc : W0.cell? ⟨c, 0, none⟩ = some (.int .i64 q)) (bl : b < W0.heap.size) (cl : c < W0.heap.size) =>
        fitsR_ok 13 #[.pointer (some ⟨b, 0, none⟩), .pointer (some ⟨c, 0, none⟩)] (lowP p q) (lowQ p q) W0 (cf_make1 _) (fun W1 hW => make1_ok p q b c W1 hp hq h0 (keepcell hW hb) (keepcell hW hc) (Nat.lt_of_lt_of_le bl hW.size) (Nat.lt_of_lt_of_le cl hW.size) hPQ.1 hPQ.2))
      clear h0 hPQ
      go_enter Try.func8, Try.ntmps8
      go_wp2_with fail
      refine (ff.out _ _ _ (by simp [go_sem]) (by simp [go_sem]) Z2i1 Z2i1).mono ?_
      rintro e w1 ⟨rfl, hb1⟩
      obtain ⟨g1, g2, g3⟩ := bgrow hb1
      have hbw : Below w.heap.size w w1 := by refine Below.trans ?_ (hb1.mono Z2i1); exact Z2i0
      have k0 : w1.cell? ⟨w.heap.size + 1 + 1, 0, none⟩ = some (.int .i64 0) := by rw [g1 _ _ Z2i1]; simp [go_sem]
      have k1 : w1.cell? ⟨w.heap.size + 1 + 1, 1, none⟩ = some (.int .i64 0) := by rw [g1 _ _ Z2i1]; simp [go_sem]
      go_wp2
      exact bodyPost_ret (v := RB (lowP p q, lowQ p q, true)) (by simp [results, Try.results8, go_sem, RB, k0, k1]) rfl ⟨rfl, Z2i0⟩
    · have hm : mk p q = (0, 0, false) := by unfold mk; rw [if_neg h0, if_neg hPQ]
      rw [hm]
      clear hm
      have ff := Lib.hid (fun (W0 : World) (b c : Nat) (hb : W0.cell? ⟨b, 0, none⟩ = some (.int .i64 p)) (hc : W0.cell? ⟨c, 0, none⟩ = some (.int .i64 q)) (bl : b < W0.heap.size) (cl : c < W0.heap.size) =>
        fitsR_no 13 #[.pointer (some ⟨b, 0, none⟩), .pointer (some ⟨c, 0, none⟩)] W0 (cf_make1 _) (fun W1 hW => make1_no p q b c W1 hp hq h0 (keepcell hW hb) (keepcell hW hc) (Nat.lt_of_lt_of_le bl hW.size) (Nat.lt_of_lt_of_le cl hW.size) hPQ))
      clear h0 hPQ
      go_enter Try.func8, Try.ntmps8
      go_wp2_with fail
      refine (ff.out _ _ _ (by simp [go_sem]) (by simp [go_sem]) Z2i1 Z2i1).mono ?_
      rintro e w1 ⟨rfl, hb1⟩
      obtain ⟨g1, g2, g3⟩ := bgrow hb1
      have hbw : Below w.heap.size w w1 := by refine Below.trans ?_ (hb1.mono Z2i1); exact Z2i0
      have k0 : w1.cell? ⟨w.heap.size + 1 + 1, 0, none⟩ = some (.int .i64 0) := by rw [g1 _ _ Z2i1]; simp [go_sem]
      have k1 : w1.cell? ⟨w.heap.size + 1 + 1, 1, none⟩ = some (.int .i64 0) := by rw [g1 _ _ Z2i1]; simp [go_sem]
      go_wp2
      exact bodyPost_ret (v := RB (0, 0, false)) (by simp [results, Try.results8, go_sem, RB, k0, k1]) rfl ⟨rfl, Z2i0⟩
end Go.Proofs.Ytdkbnbebioflaaa.Num
end

section
/- Contracts of num: small, lowest. -/
namespace Go.Proofs
theorem Z2j0 {p : Prop} (h : p := by repeat (first | exact Below.refl _ _ | with_reducible assumption | refine Below.alloc ?_ (by first | exact Nat.le_refl _ | (simp; done) | (simp; omega) | omega) _ | refine Below.setCell ?_ (by first | exact Nat.le_refl _ | (simp; done) | (simp; omega) | omega) _ | refine Below.drew ?_ | refine bdrewN ?_ _)) : p := h
theorem Z2j1 {p : Prop} (h : p := by first | exact Nat.le_refl _ | (simp; done) | (simp; omega) | omega) : p := h
end Go.Proofs
namespace Go.Proofs.Ytdkbnbebioflaaa.Num
open Go.RowKit
set_option linter.unusedVariables false
set_option linter.unusedSimpArgs false

def smallB (p q : Int) : Bool := decide (p < 1073741824 ∧ -1073741824 < p ∧ q < 1073741824)

theorem small_any (p q : Int) (w : World) :
    Calls Try.prog 63 #[RV p q] w fun e w' => e = .returned (.bool (smallB p q)) ∧ w' = w.alloc (.cells #[.int .i64 p, .int .i64 q] 29) := by
  unfold smallB
  by_cases h1 : p < 1073741824
  · have e1 : decide (p < 1073741824) = true := decide_eq_true h1
    by_cases h2 : -1073741824 < p
    · have e2 : decide (-1073741824 < p) = true := decide_eq_true h2
      have hf : decide (p < 1073741824 ∧ -1073741824 < p ∧ q < 1073741824) = decide (q < 1073741824) := by simp [h1, h2]
      rw [hf]
      clear hf
      go_enter Try.func63, Try.ntmps63
      go_wp2
      go_ret
      exact ⟨rfl, rfl⟩
    · have e2 : decide (-1073741824 < p) = false := decide_eq_false h2
      have hf : decide (p < 1073741824 ∧ -1073741824 < p ∧ q < 1073741824) = false := decide_eq_false (fun h => h2 h.2.1)
      rw [hf]
      clear hf
      go_enter Try.func63, Try.ntmps63
      go_wp2
      go_ret
      exact ⟨rfl, rfl⟩
  · have e1 : decide (p < 1073741824) = false := decide_eq_false h1
    have hf : decide (p < 1073741824 ∧ -1073741824 < p ∧ q < 1073741824) = false := decide_eq_false (fun h => h1 h.1)
    rw [hf]
    clear hf
    go_enter Try.func63, Try.ntmps63
    go_wp2
    go_ret
    exact ⟨rfl, rfl⟩

theorem low_tdiv {p q : Int} (hq : 0 < q) (hp : In64 p) : wrap64 (p.tdiv (Int.gcd p q)) = lowP p q := by
  have g0 := gcd_pos (p := p) (q := q) (by omega)
  obtain ⟨h1, h2⟩ := hp
  unfold lowP sg sz
  by_cases hn : p < 0
  · have e : Int.tdiv p (Int.gcd p q) = -((-p) / (Int.gcd p q : Int)) := by
      rw [← Int.tdiv_eq_ediv_of_nonneg (by omega), Int.neg_tdiv, Int.neg_neg]
    rw [e]
    have k1 := Int.ediv_nonneg (a := -p) (by omega) (Int.le_of_lt g0)
    have k2 := Int.ediv_le_self (a := -p) (Int.gcd p q : Int) (by omega)
    simp [hn, show ¬ q < 0 from by omega]
    unfold wrap64
    omega
  · rw [Int.tdiv_eq_ediv_of_nonneg (by omega)]
    have k1 := Int.ediv_nonneg (a := p) (by omega) (Int.le_of_lt g0)
    have k2 := Int.ediv_le_self (a := p) (Int.gcd p q : Int) (by omega)
    simp [hn, show ¬ q < 0 from by omega]
    unfold wrap64
    omega

theorem low_tdivq {p q : Int} (hq : 0 < q) (hp : In64 q) : wrap64 (q.tdiv (Int.gcd p q)) = lowQ p q := by
  have g0 := gcd_pos (p := p) (q := q) (by omega)
  obtain ⟨h1, h2⟩ := hp
  unfold lowQ sz
  rw [Int.tdiv_eq_ediv_of_nonneg (by omega)]
  have k1 := Int.ediv_nonneg (a := q) (by omega) (Int.le_of_lt g0)
  have k2 := Int.ediv_le_self (a := q) (Int.gcd p q : Int) (by omega)
  simp [show ¬ q < 0 from by omega]
  unfold wrap64
  omega

theorem lowest_any (p q : Int) (w : World) (hp : In64 p) (hq : In64 q) (h0 : 0 < q) :
    Calls Try.prog 64 #[.int .i64 p, .int .i64 q] w fun e w' => e = .returned (RV (lowP p q) (lowQ p q)) ∧ Below w.heap.size w w' := by
  have s1 := Lib.hid (fun W0 => size_any p W0 hp.1 hp.2)
  have s2 := Lib.hid (fun W0 => size_any q W0 hq.1 hq.2)
  have a1 := sz_nonneg p
  have a2 := sz_le hp.1 hp.2
  have b1 := sz_nonneg q
  have b2 := sz_le hq.1 hq.2
  have gg := Lib.hid (fun W0 => gcd_any (sz p) (sz q) W0 a1 (by omega) b1 (by omega))
  have g0 := gcd_pos (p := p) (q := q) (by omega)
  have g1 : (Int.gcd p q : Int) < 9223372036854775808 := by
    have := Int.gcd_le_natAbs_right (a := p) (b := q) (by omega)
    have := hq.2
    omega
  rw [gcd_sz] at gg
  have t1 := Lib.hid (low_tdiv h0 hp)
  have t2 := Lib.hid (low_tdivq (p := p) h0 hq)
  clear hp hq h0
  generalize (Int.gcd p q : Int) = g at *
  have hn : ¬ g = 0 := by omega
  have hg0 : (0 : Int) ≤ g := by omega
  go_enter Try.func64, Try.ntmps64
  go_wp2_with fail
  refine (s1.out _).mono ?_
  rintro e w1 ⟨rfl, rfl⟩
  go_wp2_with fail
  refine (s2.out _).mono ?_
  rintro e w1 ⟨rfl, rfl⟩
  go_wp2_with fail
  refine (gg.out _).mono ?_
  rintro e w1 ⟨rfl, n, rfl⟩
  go_wp2
  go_region
  rw [t1.out, t2.out]
  go_wp2
  exact bodyPost_ret (v := RV (lowP p q) (lowQ p q)) (by simp [results, Try.results64, go_sem]) rfl ⟨rfl, Z2j0⟩

/-- What is below one of two products of small numbers. -/
theorem small_mul {a b : Int} (h1 : -1073741824 < a) (h2 : a < 1073741824) (h3 : -1073741824 < b) (h4 : b < 1073741824) : -1152921504606846976 < a * b ∧ a * b < 1152921504606846976 := by
  have ha : a.natAbs ≤ 1073741823 := by omega
  have hb : b.natAbs ≤ 1073741823 := by omega
  have := Nat.mul_le_mul ha hb
  rw [← Int.natAbs_mul] at this
  omega

theorem lowP_in {p q : Int} (hp : In64 p) (h0 : 0 < q) : In64 (lowP p q) := by
  rw [← low_tdiv h0 hp]
  unfold wrap64 In64
  omega
theorem lowQ_in {p q : Int} (hp : In64 q) (h0 : 0 < q) : In64 (lowQ p q) := by
  rw [← low_tdivq h0 hp]
  unfold wrap64 In64
  omega
theorem mk_small {p q : Int} (hp : In64 p) (hq : In64 q) (h0 : 0 < q) : mk p q = (lowP p q, lowQ p q, true) := by
  unfold mk
  rw [if_neg (by omega), if_pos ⟨lowP_in hp h0, lowQ_in hq h0⟩]

theorem sum_wrong (p q r s : Int) (t : Bool) (w : World) (h : ¬ (0 < q ∧ 0 < s)) :
    Calls Try.prog 61 #[RV p q, RV r s, .bool t] w fun e w' => e = .returned (RB (0, 0, false)) ∧ Below w.heap.size w w' := by
  by_cases hq : 0 < q
  · have hs : ¬ 0 < s := fun k => h ⟨hq, k⟩
    have e1 : decide (0 < q) = true := decide_eq_true hq
    have e2 : decide (0 < s) = false := decide_eq_false hs
    clear h hq hs
    go_enter Try.func61, Try.ntmps61
    go_wp2_with fail
    refine (right_any _ _ _).mono ?_
    rintro e w1 ⟨rfl, rfl⟩
    rw [e1]
    go_wp2_with fail
    refine (right_any _ _ _).mono ?_
    rintro e w1 ⟨rfl, rfl⟩
    rw [e2]
    go_wp2
    exact bodyPost_ret (v := RB (0, 0, false)) (by simp [results, Try.results61, go_sem, RB]) rfl ⟨rfl, Z2j0⟩
  · have e1 : decide (0 < q) = false := decide_eq_false hq
    clear h hq
    go_enter Try.func61, Try.ntmps61
    go_wp2_with fail
    refine (right_any _ _ _).mono ?_
    rintro e w1 ⟨rfl, rfl⟩
    rw [e1]
    go_wp2
    exact bodyPost_ret (v := RB (0, 0, false)) (by simp [results, Try.results61, go_sem, RB]) rfl ⟨rfl, Z2j0⟩

/-- p/q and r/s, added, or taken away: above q * s. -/
def top (p q r s : Int) (t : Bool) : Int := if t = true then p * s - r * q else p * s + r * q

theorem sum_small (p q r s : Int) (t : Bool) (w : World) (hq : 0 < q) (hs : 0 < s) (k1 : smallB p q = true) (k2 : smallB r s = true) :
    Calls Try.prog 61 #[RV p q, RV r s, .bool t] w fun e w' => e = .returned (RB (mk (top p q r s t) (q * s))) ∧ Below w.heap.size w w' := by
  have c1 := of_decide_eq_true k1
  have c2 := of_decide_eq_true k2
  have m1 := small_mul (a := p) (b := s) (by omega) (by omega) (by omega) (by omega)
  have m2 := small_mul (a := r) (b := q) (by omega) (by omega) (by omega) (by omega)
  have m3 := small_mul (a := q) (b := s) (by omega) (by omega) (by omega) (by omega)
  have m4 := Int.mul_pos hq hs
  have e1 : decide (0 < q) = true := decide_eq_true hq
  have e2 : decide (0 < s) = true := decide_eq_true hs
  have w1 : wrap64 (p * s) = p * s := by unfold wrap64; omega
  have w2 : wrap64 (r * q) = r * q := by unfold wrap64; omega
  have w3 : wrap64 (q * s) = q * s := by unfold wrap64; omega
  have w4 : wrap64 (p * s - r * q) = p * s - r * q := by unfold wrap64; omega
  have w5 : wrap64 (p * s + r * q) = p * s + r * q := by unfold wrap64; omega
  have hD : In64 (q * s) := ⟨by omega, by omega⟩
  have hN : In64 (top p q r s t) := by unfold top; split <;> exact ⟨by omega, by omega⟩
  have low := Lib.hid (fun W0 => lowest_any (top p q r s t) (q * s) W0 hN hD m4)
  rw [mk_small hN hD m4]
  clear c1 c2 m1 m2 m3 m4 hq hs hD hN
  cases t
  · simp only [top, Bool.false_eq_true, if_false] at low ⊢
    go_enter Try.func61, Try.ntmps61
    go_wp2_with fail
    refine (right_any _ _ _).mono ?_
    rintro e w1 ⟨rfl, rfl⟩
    rw [e1]
    go_wp2_with fail
    refine (right_any _ _ _).mono ?_
    rintro e w1 ⟨rfl, rfl⟩
    rw [e2]
    go_wp2_with fail
    refine (small_any _ _ _).mono ?_
    rintro e w1 ⟨rfl, rfl⟩
    rw [k1]
    go_wp2_with fail
    refine (small_any _ _ _).mono ?_
    rintro e w1 ⟨rfl, rfl⟩
    rw [k2]
    go_wp2_with fail
    refine (small_any _ _ _).mono ?_
    rintro e w1 ⟨rfl, rfl⟩
    rw [k1]
    go_wp2_with fail
    refine (small_any _ _ _).mono ?_
    rintro e w1 ⟨rfl, rfl⟩
    rw [k2]
    go_wp2_with fail
    refine (low.out _).mono ?_
    rintro e w1 ⟨rfl, hb1⟩
    obtain ⟨g1, g2, g3⟩ := bgrow hb1
    have hbw : Below w.heap.size w w1 := by refine Below.trans ?_ (hb1.mono Z2j1); exact Z2j0
    have z0 : w1.cell? ⟨w.heap.size + 1 + 1 + 1, 0, none⟩ = some (.int .i64 0) := by rw [g1 _ _ Z2j1]; simp [go_sem]
    have z1 : w1.cell? ⟨w.heap.size + 1 + 1 + 1, 1, none⟩ = some (.int .i64 0) := by rw [g1 _ _ Z2j1]; simp [go_sem]
    go_wp2
    exact bodyPost_ret (v := RB (lowP (p * s + r * q) (q * s), lowQ (p * s + r * q) (q * s), true)) (by simp [results, Try.results61, go_sem, RB, z0, z1]) rfl ⟨rfl, Z2j0⟩
  · simp only [top, if_true] at low ⊢
    go_enter Try.func61, Try.ntmps61
    go_wp2_with fail
    refine (right_any _ _ _).mono ?_
    rintro e w1 ⟨rfl, rfl⟩
    rw [e1]
    go_wp2_with fail
    refine (right_any _ _ _).mono ?_
    rintro e w1 ⟨rfl, rfl⟩
    rw [e2]
    go_wp2_with fail
    refine (small_any _ _ _).mono ?_
    rintro e w1 ⟨rfl, rfl⟩
    rw [k1]
    go_wp2_with fail
    refine (small_any _ _ _).mono ?_
    rintro e w1 ⟨rfl, rfl⟩
    rw [k2]
    go_wp2_with fail
    refine (low.out _).mono ?_
    rintro e w1 ⟨rfl, hb1⟩
    obtain ⟨g1, g2, g3⟩ := bgrow hb1
    have hbw : Below w.heap.size w w1 := by refine Below.trans ?_ (hb1.mono Z2j1); exact Z2j0
    have z0 : w1.cell? ⟨w.heap.size + 1 + 1 + 1, 0, none⟩ = some (.int .i64 0) := by rw [g1 _ _ Z2j1]; simp [go_sem]
    have z1 : w1.cell? ⟨w.heap.size + 1 + 1 + 1, 1, none⟩ = some (.int .i64 0) := by rw [g1 _ _ Z2j1]; simp [go_sem]
    go_wp2
    exact bodyPost_ret (v := RB (lowP (p * s - r * q) (q * s), lowQ (p * s - r * q) (q * s), true)) (by simp [results, Try.results61, go_sem, RB, z0, z1]) rfl ⟨rfl, Z2j0⟩
end Go.Proofs.Ytdkbnbebioflaaa.Num
end

section
/- Contracts of num: Plus and Minus, from what sum answers. -/
namespace Go.Proofs
theorem Z2v0 {p : Prop} (h : p := by first | exact Nat.le_refl _ | (simp; done) | (simp; omega) | omega) : p := h
theorem Z2v1 {p : Prop} (h : p := by repeat (first | exact Below.refl _ _ | with_reducible assumption | refine Below.alloc ?_ (by first | exact Nat.le_refl _ | (simp; done) | (simp; omega) | omega) _ | refine Below.setCell ?_ (by first | exact Nat.le_refl _ | (simp; done) | (simp; omega) | omega) _ | refine Below.drew ?_ | refine bdrewN ?_ _)) : p := h
end Go.Proofs
namespace Go.Proofs.Ytdkbnbebioflaaa.Num
open Go.RowKit
set_option linter.unusedVariables false
set_option linter.unusedSimpArgs false

theorem Plus_of (p q r s : Int) (z : Int × Int × Bool) (w : World) (h : ∀ W, Calls Try.prog 61 #[RV p q, RV r s, .bool false] W fun e w' => e = .returned (RB z) ∧ Below W.heap.size W w') :
    Calls Try.prog 45 #[RV p q, RV r s] w fun e w' => e = .returned (RB z) ∧ Below w.heap.size w w' := by
  have H := Lib.hid h
  clear h
  obtain ⟨x, y, b⟩ := z
  go_enter Try.func45, Try.ntmps45
  go_wp2_with fail
  refine (H.out _).mono ?_
  rintro e w1 ⟨rfl, hb1⟩
  obtain ⟨g1, g2, g3⟩ := bgrow hb1
  have hbw : Below w.heap.size w w1 := by refine Below.trans ?_ (hb1.mono Z2v0); exact Z2v1
  have z0 : w1.cell? ⟨w.heap.size + 1 + 1, 0, none⟩ = some (.int .i64 0) := by rw [g1 _ _ Z2v0]; simp [go_sem]
  have z1 : w1.cell? ⟨w.heap.size + 1 + 1, 1, none⟩ = some (.int .i64 0) := by rw [g1 _ _ Z2v0]; simp [go_sem]
  go_wp2
  exact bodyPost_ret (v := RB (x, y, b)) (by simp [results, Try.results45, go_sem, z0, z1]) rfl ⟨rfl, Z2v1⟩

theorem Minus_of (p q r s : Int) (z : Int × Int × Bool) (w : World) (h : ∀ W, Calls Try.prog 61 #[RV p q, RV r s, .bool true] W fun e w' => e = .returned (RB z) ∧ Below W.heap.size W w') :
    Calls Try.prog 57 #[RV p q, RV r s] w fun e w' => e = .returned (RB z) ∧ Below w.heap.size w w' := by
  have H := Lib.hid h
  clear h
  obtain ⟨x, y, b⟩ := z
  go_enter Try.func57, Try.ntmps57
  go_wp2_with fail
  refine (H.out _).mono ?_
  rintro e w1 ⟨rfl, hb1⟩
  obtain ⟨g1, g2, g3⟩ := bgrow hb1
  have hbw : Below w.heap.size w w1 := by refine Below.trans ?_ (hb1.mono Z2v0); exact Z2v1
  have z0 : w1.cell? ⟨w.heap.size + 1 + 1, 0, none⟩ = some (.int .i64 0) := by rw [g1 _ _ Z2v0]; simp [go_sem]
  have z1 : w1.cell? ⟨w.heap.size + 1 + 1, 1, none⟩ = some (.int .i64 0) := by rw [g1 _ _ Z2v0]; simp [go_sem]
  go_wp2
  exact bodyPost_ret (v := RB (x, y, b)) (by simp [results, Try.results57, go_sem, z0, z1]) rfl ⟨rfl, Z2v1⟩

theorem cell_lt {W : World} {b o : Nat} {v : Value} (h : W.cell? ⟨b, o, none⟩ = some v) : b < W.heap.size := by
  by_cases hlt : b < W.heap.size
  · exact hlt
  · rw [World.cell?, Array.getElem?_eq_none (Nat.not_lt.1 hlt)] at h
    simp at h

end Go.Proofs.Ytdkbnbebioflaaa.Num
end
