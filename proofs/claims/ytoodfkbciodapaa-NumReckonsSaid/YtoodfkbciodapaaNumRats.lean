/- ashlarlaw01.rats: two rats at once. -/
import Derived.Test.YtoodfkbciodapaaNumP
import Derived.Test.YtoodfkbciodapaaNumShownC
namespace Go.Proofs.Ytoodfkbciodapaa.Given
open Go.RowKit Go.Proofs.Ytoodfkbciodapaa.Num
set_option linter.unusedVariables false
set_option linter.unusedSimpArgs false

theorem keepfroz {W w1 : World} (hb : Below W.heap.size W w1) {b i : Nat} (hl : b < W.heap.size) (h : W.frozen? ⟨b, i, none⟩ = false) : w1.frozen? ⟨b, i, none⟩ = false := by
  rw [(bgrow hb).2.1 b i hl, h]

set_option maxHeartbeats 4000000 in
theorem rats_any (p q r s : Int) {a1 a2 b1 b2 : Int} {A B : Bool} (w : World)
    (k1 : ∀ w, Calls Try.prog 16 #[.int .i64 p, .int .i64 q] w fun e w' => e = .returned (.tuple #[.agg #[.int .i64 a1, .int .i64 a2], .bool A]) ∧ Below w.heap.size w w')
    (k2 : ∀ w, Calls Try.prog 16 #[.int .i64 r, .int .i64 s] w fun e w' => e = .returned (.tuple #[.agg #[.int .i64 b1, .int .i64 b2], .bool B]) ∧ Below w.heap.size w w') :
    Calls Try.prog 5 #[.int .i64 p, .int .i64 q, .int .i64 r, .int .i64 s] w fun e w' => e = .returned (.tuple #[.agg #[.int .i64 a1, .int .i64 a2], .agg #[.int .i64 b1, .int .i64 b2], .bool (A && B)]) ∧ Below w.heap.size w w' := by
  go_enter Try.func5, Try.ntmps5
  go_wp2_with fail
  refine (k1 _).mono ?_
  rintro e w1 ⟨rfl, hb1⟩
  have hbw1 : Below w.heap.size w w1 := by refine Below.trans ?_ (hb1.mono (by first | exact Nat.le_refl _ | (simp; done) | (simp; omega) | omega)); exact (by repeat (first | exact Below.refl _ _ | with_reducible assumption | refine Below.alloc ?_ (by first | exact Nat.le_refl _ | (simp; done) | (simp; omega) | omega) _ | refine Below.setCell ?_ (by first | exact Nat.le_refl _ | (simp; done) | (simp; omega) | omega) _ | refine Below.drew ?_ | refine bdrewN ?_ _))
  have hz1 := hbw1.size
  have OA0_1 : w1.cell? ⟨w.heap.size, 0, none⟩ = some (.int .i64 0) := keepcell hb1 (by simp [go_sem]; done)
  have OA1_1 : w1.cell? ⟨w.heap.size, 1, none⟩ = some (.int .i64 0) := keepcell hb1 (by simp [go_sem]; done)
  have OAf0_1 : w1.frozen? ⟨w.heap.size, 0, none⟩ = false := keepfroz hb1 (by first | (simp; done) | (simp; omega)) (by simp [go_sem]; done)
  have OAf1_1 : w1.frozen? ⟨w.heap.size, 1, none⟩ = false := keepfroz hb1 (by first | (simp; done) | (simp; omega)) (by simp [go_sem]; done)
  have OAz_1 : w.heap.size < w1.heap.size := cell_lt OA0_1
  have OB0_1 : w1.cell? ⟨w.heap.size + 1, 0, none⟩ = some (.int .i64 0) := keepcell hb1 (by simp [go_sem]; done)
  have OB1_1 : w1.cell? ⟨w.heap.size + 1, 1, none⟩ = some (.int .i64 0) := keepcell hb1 (by simp [go_sem]; done)
  have OBf0_1 : w1.frozen? ⟨w.heap.size + 1, 0, none⟩ = false := keepfroz hb1 (by first | (simp; done) | (simp; omega)) (by simp [go_sem]; done)
  have OBf1_1 : w1.frozen? ⟨w.heap.size + 1, 1, none⟩ = false := keepfroz hb1 (by first | (simp; done) | (simp; omega)) (by simp [go_sem]; done)
  have OBz_1 : w.heap.size + 1 < w1.heap.size := cell_lt OB0_1
  have hs1 := hb1.size; simp at hs1
  go_wp2_with fail
  refine (k2 _).mono ?_
  rintro e w2 ⟨rfl, hb2⟩
  have hbw2 : Below w.heap.size w w2 := by refine Below.trans ?_ (hb2.mono (by first | exact Nat.le_refl _ | (simp; done) | (simp; omega) | omega)); exact (by repeat (first | exact Below.refl _ _ | with_reducible assumption | refine Below.alloc ?_ (by first | exact Nat.le_refl _ | (simp; done) | (simp; omega) | omega) _ | refine Below.setCell ?_ (by first | exact Nat.le_refl _ | (simp; done) | (simp; omega) | omega) _ | refine Below.drew ?_ | refine bdrewN ?_ _))
  have hz2 := hbw2.size
  have OA0_2 : w2.cell? ⟨w.heap.size, 0, none⟩ = some (.int .i64 0) := keepcell hb2 (by first | exact OA0_1 | exact keepalloc OA0_1 | exact keepalloc (keepalloc OA0_1) | exact keepset (by omega) OA0_1 | (simp [go_sem, OA0_1, Nat.ne_of_lt, Nat.ne_of_gt]; done))
  have OA1_2 : w2.cell? ⟨w.heap.size, 1, none⟩ = some (.int .i64 0) := keepcell hb2 (by first | exact OA1_1 | exact keepalloc OA1_1 | exact keepalloc (keepalloc OA1_1) | exact keepset (by omega) OA1_1 | (simp [go_sem, OA1_1, Nat.ne_of_lt, Nat.ne_of_gt]; done))
  have OAf0_2 : w2.frozen? ⟨w.heap.size, 0, none⟩ = false := keepfroz hb2 (by first | exact OAz_1 | (simp; omega)) (by first | with_reducible exact OAf0_1 | (with_reducible rw [World.frozen?_setCell, World.frozen?_setCell]; with_reducible exact OAf0_1) | exact (World.frozen?_alloc_past _ _ _ OAz_1).trans OAf0_1 | (simp [go_sem, OAf0_1]; done))
  have OAf1_2 : w2.frozen? ⟨w.heap.size, 1, none⟩ = false := keepfroz hb2 (by first | exact OAz_1 | (simp; omega)) (by first | with_reducible exact OAf1_1 | (with_reducible rw [World.frozen?_setCell, World.frozen?_setCell]; with_reducible exact OAf1_1) | exact (World.frozen?_alloc_past _ _ _ OAz_1).trans OAf1_1 | (simp [go_sem, OAf1_1]; done))
  have OAz_2 : w.heap.size < w2.heap.size := cell_lt OA0_2
  have OB0_2 : w2.cell? ⟨w.heap.size + 1, 0, none⟩ = some (.int .i64 0) := keepcell hb2 (by first | exact OB0_1 | exact keepalloc OB0_1 | exact keepalloc (keepalloc OB0_1) | exact keepset (by omega) OB0_1 | (simp [go_sem, OB0_1, Nat.ne_of_lt, Nat.ne_of_gt]; done))
  have OB1_2 : w2.cell? ⟨w.heap.size + 1, 1, none⟩ = some (.int .i64 0) := keepcell hb2 (by first | exact OB1_1 | exact keepalloc OB1_1 | exact keepalloc (keepalloc OB1_1) | exact keepset (by omega) OB1_1 | (simp [go_sem, OB1_1, Nat.ne_of_lt, Nat.ne_of_gt]; done))
  have OBf0_2 : w2.frozen? ⟨w.heap.size + 1, 0, none⟩ = false := keepfroz hb2 (by first | exact OBz_1 | (simp; omega)) (by first | with_reducible exact OBf0_1 | (with_reducible rw [World.frozen?_setCell, World.frozen?_setCell]; with_reducible exact OBf0_1) | exact (World.frozen?_alloc_past _ _ _ OBz_1).trans OBf0_1 | (simp [go_sem, OBf0_1]; done))
  have OBf1_2 : w2.frozen? ⟨w.heap.size + 1, 1, none⟩ = false := keepfroz hb2 (by first | exact OBz_1 | (simp; omega)) (by first | with_reducible exact OBf1_1 | (with_reducible rw [World.frozen?_setCell, World.frozen?_setCell]; with_reducible exact OBf1_1) | exact (World.frozen?_alloc_past _ _ _ OBz_1).trans OBf1_1 | (simp [go_sem, OBf1_1]; done))
  have OBz_2 : w.heap.size + 1 < w2.heap.size := cell_lt OB0_2
  have BA0_2 : w2.cell? ⟨w1.heap.size, 0, none⟩ = some (.int .i64 a1) := keepcell hb2 (by simp [go_sem]; done)
  have BA1_2 : w2.cell? ⟨w1.heap.size, 1, none⟩ = some (.int .i64 a2) := keepcell hb2 (by simp [go_sem]; done)
  have BAz_2 : w1.heap.size < w2.heap.size := cell_lt BA0_2
  cases A
  all_goals (
    go_wp2
    refine wp_region_held_drew (S := (fun w' => w'.cell? ⟨w1.heap.size, 0, none⟩ = some (.int .i64 a1) ∧ w'.cell? ⟨w1.heap.size, 1, none⟩ = some (.int .i64 a2) ∧ w'.cell? ⟨w2.heap.size, 0, none⟩ = some (.int .i64 b1) ∧ w'.cell? ⟨w2.heap.size, 1, none⟩ = some (.int .i64 b2))) (by kernel_rfl) ?_ (fun hHeld => ?_)
    · first | exact ⟨keepalloc BA0_2, keepalloc BA1_2, by simp [go_sem], by simp [go_sem]⟩ | (simp [go_sem]; done)
    iterate 4 ((first | refine tk0 ?_ (by decide +kernel) (by rfl) (fun _ _ _ => id) ?_ (by assumption) ?_ | refine tk1 ?_ (by decide +kernel) (by rfl) (fun _ _ _ => id) ?_ (by assumption) ?_ | refine tk2 ?_ (by decide +kernel) (by rfl) (fun _ _ _ => id) ?_ (by assumption) ?_ | refine tk3 ?_ (by decide +kernel) (by rfl) (fun _ _ _ => id) ?_ (by assumption) ?_); (rotate_left 1); (focus (intro w_ hSw; (try dsimp only at hSw); go_simp; all_goals (with_reducible rfl); done)); focus try simp only [Act.put, List.setIfInBounds_toArray, List.set_cons_zero, List.set_cons_succ])
    (first | (refine tk4 ?_ (by kernel_rfl) (by rfl) (fun _ _ _ => id) ?_ (by assumption) ?_; rotate_left 1; (focus (intro w_ hSw; (try dsimp only at hSw); go_simp; all_goals (with_reducible rfl); done))) | refine un4 (by kernel_rfl) (by rfl) (fun _ _ _ => id) (by assumption) ?_); focus try simp only [Act.put, List.setIfInBounds_toArray, List.set_cons_zero, List.set_cons_succ]
    refine tk5 ?_ (by kernel_rfl) (by rfl) (fun _ _ _ => id) ?_ (by assumption) ?_; rotate_left 1; (focus (intro w_ hSw; (try dsimp only at hSw); go_simp; all_goals (with_reducible rfl); done)); focus try simp only [Act.put, List.setIfInBounds_toArray, List.set_cons_zero, List.set_cons_succ]
    refine wpAnyH_ready (rs := [6]) (by kernel_rfl) (by simp) (ac6 (fun K hK => ?_) (AllReadyH.nil))
    focus go_simp
    refine hK.out _ _ ?_ (fun hHeld => ?_)
    · refine ⟨?_, ?_, ?_, ?_⟩ <;> first | (simp [go_sem]; done) | (refine keepalloc ?_; refine keepset (by omega) ?_; refine keepset (by omega) ?_; first | exact BA0_2 | exact BA1_2 | (refine keepset (by omega) ?_; refine keepset (by omega) ?_; first | exact BA0_2 | exact BA1_2))
    focus clear hK K; try simp only [Act.put, List.setIfInBounds_toArray, List.set_cons_zero, List.set_cons_succ]
    refine wpAnyH_ready (rs := [7]) (by kernel_rfl) (by simp) (ac7 (fun K hK => ?_) (AllReadyH.nil))
    focus go_simp
    refine hK.out _ _ ?_ (fun hHeld => ?_)
    · refine ⟨?_, ?_, ?_, ?_⟩ <;> first | (simp [go_sem]; done) | (refine keepalloc ?_; refine keepset (by omega) ?_; refine keepset (by omega) ?_; first | exact BA0_2 | exact BA1_2 | (refine keepset (by omega) ?_; refine keepset (by omega) ?_; first | exact BA0_2 | exact BA1_2))
    focus clear hK K; try simp only [Act.put, List.setIfInBounds_toArray, List.set_cons_zero, List.set_cons_succ]
    refine tk8 ?_ (by kernel_rfl) (by rfl) (fun _ _ _ => id) ?_ (by assumption) ?_; rotate_left 1; (focus (intro w_ hSw; (try dsimp only at hSw); go_simp; all_goals (with_reducible rfl); done)); focus try simp only [Act.put, List.setIfInBounds_toArray, List.set_cons_zero, List.set_cons_succ]
    refine wpAnyH_done (by kernel_rfl) ?_ _; rotate_left 1
    all_goals (
      go_wp2
      exact bodyPost_ret (v := .tuple #[.agg #[.int .i64 a1, .int .i64 a2], .agg #[.int .i64 b1, .int .i64 b2], .bool _]) (by simp [results, Try.results5, go_sem, OA0_2, OA1_2, OB0_2, OB1_2, OAz_2, OBz_2]; done) rfl ⟨rfl, (by repeat (first | exact Below.refl _ _ | with_reducible assumption | refine Below.alloc ?_ (by first | exact Nat.le_refl _ | (simp; done) | (simp; omega) | omega) _ | refine Below.setCell ?_ (by first | exact Nat.le_refl _ | (simp; done) | (simp; omega) | omega) _ | refine Below.drew ?_ | refine bdrewN ?_ _))⟩))
end Go.Proofs.Ytoodfkbciodapaa.Given
