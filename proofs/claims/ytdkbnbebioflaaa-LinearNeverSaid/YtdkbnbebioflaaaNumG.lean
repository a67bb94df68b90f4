/- Contracts of num: rat, Make and its closure. -/
import Derived.Test.YtdkbnbebioflaaaTk
import Derived.Test.YtdkbnbebioflaaaNumF
namespace Go.Proofs
theorem Z2d0 {p : Prop} (h : p := by repeat (first | exact Below.refl _ _ | with_reducible assumption | refine Below.alloc ?_ (by first | exact Nat.le_refl _ | (simp; done) | (simp; omega) | omega) _ | refine Below.setCell ?_ (by first | exact Nat.le_refl _ | (simp; done) | (simp; omega) | omega) _ | refine Below.drew ?_ | refine bdrewN ?_ _)) : p := h
theorem Z2d1 {p : Prop} (h : p := by (intro w_ hSw; (try dsimp only at hSw); go_simp; all_goals (with_reducible rfl); done)) : p := h
end Go.Proofs
namespace Go.Proofs.Ytdkbnbebioflaaa.Num
open Go.RowKit
set_option linter.unusedVariables false
set_option linter.unusedSimpArgs false

@[reducible, go_sem] def RV (p q : Int) : Value := .agg #[.int .i64 p, .int .i64 q]

set_option maxHeartbeats 1000000 in
theorem rat_ok {x y : Int} {b h l b2 h2 l2} (hw : WV x b h l) (hw2 : WV y b2 h2 l2) (hx : In64 x) (hy : In64 y) (w : World) :
    Calls Try.prog 16 #[W b h l, W b2 h2 l2] w fun e w' => e = .returned (RV x y) ∧ Below w.heap.size w w' := by
  have p1 := Lib.hid (fun W0 => int64_fits hw hx W0)
  have p2 := Lib.hid (fun W0 => int64_fits hw2 hy W0)
  clear hw hw2 hx hy
  unfold W at *
  go_enter Try.func16, Try.ntmps16
  go_wp2
  go_region_held3 (fun w' => w'.cell? ⟨w.heap.size, 0, none⟩ = some (.bool b) ∧ w'.cell? ⟨w.heap.size, 1, none⟩ = some (.int .u64 h) ∧ w'.cell? ⟨w.heap.size, 2, none⟩ = some (.int .u64 l) ∧ w'.cell? ⟨w.heap.size + 1, 0, none⟩ = some (.bool b2) ∧ w'.cell? ⟨w.heap.size + 1, 1, none⟩ = some (.int .u64 h2) ∧ w'.cell? ⟨w.heap.size + 1, 2, none⟩ = some (.int .u64 l2))
    (first | (simp [go_sem]; done))
    (first | ((with_reducible refine (p1.out _).mono ?_); rintro e w1 ⟨rfl, rfl⟩) | ((with_reducible refine (p2.out _).mono ?_); rintro e w2 ⟨rfl, rfl⟩))
  go_wp2
  exact bodyPost_ret (v := RV x y) (by simp [results, Try.results16, go_sem, RV]) rfl ⟨rfl, Z2d0⟩

set_option maxHeartbeats 1000000 in
theorem rat_no1 {x : Int} {b h l b2 h2 l2} (hw : WV x b h l) (hx : ¬ In64 x) (w : World) :
    Calls Try.prog 16 #[W b h l, W b2 h2 l2] w fun e w' => e = .panicked LargeP ∧ Below w.heap.size w w' := by
  have p1 := Lib.hid (fun W0 => int64_large hw hx W0)
  clear hw hx
  unfold W at *
  go_enter Try.func16, Try.ntmps16
  go_wp2
  refine wp_region_held_drew (S := (fun w' => w'.cell? ⟨w.heap.size, 0, none⟩ = some (.bool b) ∧ w'.cell? ⟨w.heap.size, 1, none⟩ = some (.int .u64 h) ∧ w'.cell? ⟨w.heap.size, 2, none⟩ = some (.int .u64 l) ∧ w'.cell? ⟨w.heap.size + 1, 0, none⟩ = some (.bool b2) ∧ w'.cell? ⟨w.heap.size + 1, 1, none⟩ = some (.int .u64 h2) ∧ w'.cell? ⟨w.heap.size + 1, 2, none⟩ = some (.int .u64 l2))) (by kernel_rfl) ?_ (fun hHeld => ?_)
  · (simp [go_sem]; done)
  iterate 2 ((first | refine tk0 ?_ (by decide +kernel) (by rfl) (fun _ _ _ => id) ?_ (by assumption) ?_ | refine tk2 ?_ (by decide +kernel) (by rfl) (fun _ _ _ => id) ?_ (by assumption) ?_); (rotate_left 1); (focus exact Z2d1); focus try simp only [Act.put, List.setIfInBounds_toArray, List.set_cons_zero, List.set_cons_succ])
  refine wpAnyH_ready (rs := [1]) (by kernel_rfl) (by simp) (ac1 (fun K hK => ?_) (AllReadyH.nil))
  focus go_simp
  · (refine (p1.out _).mono ?_; rintro e w1 ⟨rfl, rfl⟩; exact ⟨rfl, rfl, by first | exact Z2d0 | exact Below.drew Z2d0⟩)

set_option maxHeartbeats 1000000 in
theorem rat_no2 {x y : Int} {b h l b2 h2 l2} (hw : WV x b h l) (hw2 : WV y b2 h2 l2) (hx : In64 x) (hy : ¬ In64 y) (w : World) :
    Calls Try.prog 16 #[W b h l, W b2 h2 l2] w fun e w' => e = .panicked LargeP ∧ Below w.heap.size w w' := by
  have p1 := Lib.hid (fun W0 => int64_fits hw hx W0)
  have p2 := Lib.hid (fun W0 => int64_large hw2 hy W0)
  clear hw hw2 hx hy
  unfold W at *
  go_enter Try.func16, Try.ntmps16
  go_wp2
  refine wp_region_held_drew (S := (fun w' => w'.cell? ⟨w.heap.size, 0, none⟩ = some (.bool b) ∧ w'.cell? ⟨w.heap.size, 1, none⟩ = some (.int .u64 h) ∧ w'.cell? ⟨w.heap.size, 2, none⟩ = some (.int .u64 l) ∧ w'.cell? ⟨w.heap.size + 1, 0, none⟩ = some (.bool b2) ∧ w'.cell? ⟨w.heap.size + 1, 1, none⟩ = some (.int .u64 h2) ∧ w'.cell? ⟨w.heap.size + 1, 2, none⟩ = some (.int .u64 l2))) (by kernel_rfl) ?_ (fun hHeld => ?_)
  · (simp [go_sem]; done)
  iterate 2 ((first | refine tk0 ?_ (by decide +kernel) (by rfl) (fun _ _ _ => id) ?_ (by assumption) ?_ | refine tk2 ?_ (by decide +kernel) (by rfl) (fun _ _ _ => id) ?_ (by assumption) ?_); (rotate_left 1); (focus exact Z2d1); focus try simp only [Act.put, List.setIfInBounds_toArray, List.set_cons_zero, List.set_cons_succ])
  refine wpAnyH_ready (rs := [1]) (by kernel_rfl) (by simp) (ac1 (fun K hK => ?_) (AllReadyH.nil))
  focus go_simp
  focus (refine (p1.out _).mono ?_; rintro e w1 ⟨rfl, rfl⟩)
  focus try simp only []
  refine hK.out _ _ ?_ (fun hHeld => ?_)
  · (simp [go_sem]; done)
  focus clear hK K; try simp only [Act.put, List.setIfInBounds_toArray, List.set_cons_zero, List.set_cons_succ]
  refine wpAnyH_ready (rs := [3]) (by kernel_rfl) (by simp) (ac3 (fun K hK => ?_) (AllReadyH.nil))
  focus go_simp
  · (refine (p2.out _).mono ?_; rintro e w1 ⟨rfl, rfl⟩; exact ⟨rfl, rfl, by first | exact Z2d0 | exact Below.drew Z2d0⟩)

theorem rat_no {x y : Int} {b h l b2 h2 l2} (hw : WV x b h l) (hw2 : WV y b2 h2 l2) (hxy : ¬ (In64 x ∧ In64 y)) (w : World) :
    Calls Try.prog 16 #[W b h l, W b2 h2 l2] w fun e w' => e = .panicked LargeP ∧ Below w.heap.size w w' := by
  by_cases hx : In64 x
  · exact rat_no2 hw hw2 hx (fun hy => hxy ⟨hx, hy⟩) w
  · exact rat_no1 hw hx w
end Go.Proofs.Ytdkbnbebioflaaa.Num
