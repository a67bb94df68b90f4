/- The contract of ashlarref01.cut: digits without noughts at the end; the row that is answered is the head of the one that was given. -/
import Derived.Test.YtoodfkbciodapaaNumP
import Derived.Test.YtoodfkbciodapaaWWords
import Derived.LoopTactic
import Derived.Deep.LoopGhost
namespace Go.Proofs.Ytoodfkbciodapaa.Ref
open Go.RowKit Go.Proofs.YtoodfkbciodapaaW.PrintWords
set_option linter.unusedVariables false
set_option linter.unusedSimpArgs false

/-- How many digits stay of the first n. -/
def cutN (l : List Int) : Nat → Nat
  | 0 => 0
  | n + 1 => if l.getD n 0 = 0 then cutN l n else n + 1
theorem cutN_le (l : List Int) : ∀ n, cutN l n ≤ n
  | 0 => Nat.le_refl _
  | n + 1 => by
    have := cutN_le l n
    unfold cutN; split <;> omega

set_option maxHeartbeats 4000000 in
set_option maxRecDepth 100000 in
theorem cut_any (d : Bool) (A : Option Addr) (c : Nat) (l : List Int) (w : World) (hr : Kd.C (Kd.int .i64) w A l.length l) (hc : l.length ≤ c) (hl : l.length ≤ 1000000) :
    Calls Try.prog 51 #[.agg #[.bool d, .slice A l.length c]] w fun e w' => e = .returned (.agg #[.bool (d && decide (0 < cutN l l.length)), .slice A (cutN l l.length) c]) ∧ Below w.heap.size w w' := by
  have hR := Lib.hid hr
  clear hr
  go_enter Try.func51, Try.ntmps51
  go_wp2
  go_loopw [3] (fun i wr => ∃ k : Nat, k ≤ l.length ∧ i = .int .i64 k ∧ cutN l k = cutN l l.length ∧ wr = ((w.alloc (Obj.cells #[.bool d, .slice A l.length c] 59)).alloc (Obj.cells #[.bool false, .slice none 0 0] 59))) (fun i _ => (intOf i).toNat)
  case atStart => exact ⟨l.length, Nat.le_refl _, rfl, rfl, rfl⟩
  case round =>
    obtain ⟨k, hk, rfl, hcut, rfl⟩ := hrel
    cases k with
    | zero =>
      have hz : cutN l l.length = 0 := by rw [← hcut]; rfl
      have HZ := Lib.hid hz
      clear hz hcut
      cases d
      · go_wp2
        refine wp_region_held_drew (S := (fun w' => w'.cell? ⟨w.heap.size, 0, none⟩ = some (.bool false) ∧ w'.cell? ⟨w.heap.size, 1, none⟩ = some (.slice A l.length c))) (by kernel_rfl) ?_ (fun hHeld => ?_)
        · (first | (simp [go_sem]; done))
        iterate 3 ((first | refine tk0 ?_ (by decide +kernel) (by rfl) (fun _ _ _ => id) ?_ (by assumption) ?_ | refine tk1 ?_ (by decide +kernel) (by rfl) (fun _ _ _ => id) ?_ (by assumption) ?_ | refine tk2 ?_ (by decide +kernel) (by rfl) (fun _ _ _ => id) ?_ (by assumption) ?_); (rotate_left 1); (focus (intro w_ hSw; (try dsimp only at hSw); go_simp; all_goals (with_reducible rfl); done)); focus try simp only [Act.put, List.setIfInBounds_toArray, List.set_cons_zero, List.set_cons_succ])
        (first | (refine tk3 ?_ (by kernel_rfl) (by rfl) (fun _ _ _ => id) ?_ (by assumption) ?_; rotate_left 1; (focus (intro w_ hSw; (try dsimp only at hSw); go_simp; all_goals (with_reducible rfl); done))) | refine un3 (by kernel_rfl) (by rfl) (fun _ _ _ => id) (by assumption) ?_); focus try simp only [Act.put, List.setIfInBounds_toArray, List.set_cons_zero, List.set_cons_succ]
        (first | (refine tk4 ?_ (by kernel_rfl) (by rfl) (fun _ _ _ => id) ?_ (by assumption) ?_; rotate_left 1; (focus (intro w_ hSw; (try dsimp only at hSw); go_simp; all_goals (with_reducible rfl); done))) | refine un4 (by kernel_rfl) (by rfl) (fun _ _ _ => id) (by assumption) ?_); focus try simp only [Act.put, List.setIfInBounds_toArray, List.set_cons_zero, List.set_cons_succ]
        iterate 6 ((first | refine tk5 ?_ (by decide +kernel) (by rfl) (fun _ _ _ => id) ?_ (by assumption) ?_ | refine tk6 ?_ (by decide +kernel) (by rfl) (fun _ _ _ => id) ?_ (by assumption) ?_ | refine tk7 ?_ (by decide +kernel) (by rfl) (fun _ _ _ => id) ?_ (by assumption) ?_ | refine tk8 ?_ (by decide +kernel) (by rfl) (fun _ _ _ => id) ?_ (by assumption) ?_ | refine tk9 ?_ (by decide +kernel) (by rfl) (fun _ _ _ => id) ?_ (by assumption) ?_ | refine tk10 ?_ (by decide +kernel) (by rfl) (fun _ _ _ => id) ?_ (by assumption) ?_); (rotate_left 1); (focus (intro w_ hSw; (try dsimp only at hSw); go_simp; all_goals (with_reducible rfl); done)); focus try simp only [Act.put, List.setIfInBounds_toArray, List.set_cons_zero, List.set_cons_succ])
        refine wpAnyH_ready (rs := [11]) (by kernel_rfl) (by simp) (ac11 (fun K hK => ?_) (AllReadyH.nil))
        focus go_simp
        refine hK.out _ _ ?_ (fun hHeld => ?_)
        · (first | (simp [go_sem]; done))
        focus clear hK K; try simp only [Act.put, List.setIfInBounds_toArray, List.set_cons_zero, List.set_cons_succ]
        refine wpAnyH_done (by kernel_rfl) ?_ _; rotate_left 1
        all_goals (try go_wp2)
        exact bodyPost_ret (v := .agg #[.bool false, .slice A 0 c]) (by simp [results, Try.results51, go_sem]) rfl ⟨by rw [HZ.out]; simp, by first | exact (by repeat (first | exact Below.refl _ _ | with_reducible assumption | refine Below.alloc ?_ (by first | exact Nat.le_refl _ | (simp; done) | (simp; omega) | omega) _ | refine Below.setCell ?_ (by first | exact Nat.le_refl _ | (simp; done) | (simp; omega) | omega) _ | refine Below.drew ?_ | refine bdrewN ?_ _)) | exact Below.drew (by repeat (first | exact Below.refl _ _ | with_reducible assumption | refine Below.alloc ?_ (by first | exact Nat.le_refl _ | (simp; done) | (simp; omega) | omega) _ | refine Below.setCell ?_ (by first | exact Nat.le_refl _ | (simp; done) | (simp; omega) | omega) _ | refine Below.drew ?_ | refine bdrewN ?_ _))⟩
      · go_wp2
        refine wp_region_held_drew (S := (fun w' => w'.cell? ⟨w.heap.size, 0, none⟩ = some (.bool true) ∧ w'.cell? ⟨w.heap.size, 1, none⟩ = some (.slice A l.length c))) (by kernel_rfl) ?_ (fun hHeld => ?_)
        · (first | (simp [go_sem]; done))
        iterate 3 ((first | refine tk0 ?_ (by decide +kernel) (by rfl) (fun _ _ _ => id) ?_ (by assumption) ?_ | refine tk1 ?_ (by decide +kernel) (by rfl) (fun _ _ _ => id) ?_ (by assumption) ?_ | refine tk2 ?_ (by decide +kernel) (by rfl) (fun _ _ _ => id) ?_ (by assumption) ?_); (rotate_left 1); (focus (intro w_ hSw; (try dsimp only at hSw); go_simp; all_goals (with_reducible rfl); done)); focus try simp only [Act.put, List.setIfInBounds_toArray, List.set_cons_zero, List.set_cons_succ])
        (first | (refine tk3 ?_ (by kernel_rfl) (by rfl) (fun _ _ _ => id) ?_ (by assumption) ?_; rotate_left 1; (focus (intro w_ hSw; (try dsimp only at hSw); go_simp; all_goals (with_reducible rfl); done))) | refine un3 (by kernel_rfl) (by rfl) (fun _ _ _ => id) (by assumption) ?_); focus try simp only [Act.put, List.setIfInBounds_toArray, List.set_cons_zero, List.set_cons_succ]
        (first | (refine tk4 ?_ (by kernel_rfl) (by rfl) (fun _ _ _ => id) ?_ (by assumption) ?_; rotate_left 1; (focus (intro w_ hSw; (try dsimp only at hSw); go_simp; all_goals (with_reducible rfl); done))) | refine un4 (by kernel_rfl) (by rfl) (fun _ _ _ => id) (by assumption) ?_); focus try simp only [Act.put, List.setIfInBounds_toArray, List.set_cons_zero, List.set_cons_succ]
        iterate 6 ((first | refine tk5 ?_ (by decide +kernel) (by rfl) (fun _ _ _ => id) ?_ (by assumption) ?_ | refine tk6 ?_ (by decide +kernel) (by rfl) (fun _ _ _ => id) ?_ (by assumption) ?_ | refine tk7 ?_ (by decide +kernel) (by rfl) (fun _ _ _ => id) ?_ (by assumption) ?_ | refine tk8 ?_ (by decide +kernel) (by rfl) (fun _ _ _ => id) ?_ (by assumption) ?_ | refine tk9 ?_ (by decide +kernel) (by rfl) (fun _ _ _ => id) ?_ (by assumption) ?_ | refine tk10 ?_ (by decide +kernel) (by rfl) (fun _ _ _ => id) ?_ (by assumption) ?_); (rotate_left 1); (focus (intro w_ hSw; (try dsimp only at hSw); go_simp; all_goals (with_reducible rfl); done)); focus try simp only [Act.put, List.setIfInBounds_toArray, List.set_cons_zero, List.set_cons_succ])
        refine wpAnyH_ready (rs := [11]) (by kernel_rfl) (by simp) (ac11 (fun K hK => ?_) (AllReadyH.nil))
        focus go_simp
        refine hK.out _ _ ?_ (fun hHeld => ?_)
        · (first | (simp [go_sem]; done))
        focus clear hK K; try simp only [Act.put, List.setIfInBounds_toArray, List.set_cons_zero, List.set_cons_succ]
        refine wpAnyH_done (by kernel_rfl) ?_ _; rotate_left 1
        all_goals (try go_wp2)
        exact bodyPost_ret (v := .agg #[.bool false, .slice A 0 c]) (by simp [results, Try.results51, go_sem]) rfl ⟨by rw [HZ.out]; simp, by first | exact (by repeat (first | exact Below.refl _ _ | with_reducible assumption | refine Below.alloc ?_ (by first | exact Nat.le_refl _ | (simp; done) | (simp; omega) | omega) _ | refine Below.setCell ?_ (by first | exact Nat.le_refl _ | (simp; done) | (simp; omega) | omega) _ | refine Below.drew ?_ | refine bdrewN ?_ _)) | exact Below.drew (by repeat (first | exact Below.refl _ _ | with_reducible assumption | refine Below.alloc ?_ (by first | exact Nat.le_refl _ | (simp; done) | (simp; omega) | omega) _ | refine Below.setCell ?_ (by first | exact Nat.le_refl _ | (simp; done) | (simp; omega) | omega) _ | refine Below.drew ?_ | refine bdrewN ?_ _))⟩
    | succ k =>
      have hx := Kd.at_int hR.out (k : Int) (by omega) (by omega)
      obtain ⟨ad, rfl, hx⟩ := hx
      have hrd : rd l (k : Int) = l.getD k 0 := by unfold rd; rw [Int.toNat_natCast]
      rw [hrd, Int.toNat_natCast] at hx
      have hx2 : ((w.alloc (Obj.cells #[.bool d, .slice (some ad) l.length c] 59)).alloc (Obj.cells #[.bool false, .slice none 0 0] 59)).cell? (ad.add k) = some (.int .i64 (l.getD k 0)) := by
        rw [World.cell?_alloc_some _ _ _ (by rw [World.cell?_alloc_some _ _ _ (by rw [hx]; rfl), hx]; rfl), World.cell?_alloc_some _ _ _ (by rw [hx]; rfl), hx]
      have hcn : cutN l (k + 1) = if l.getD k 0 = 0 then cutN l k else k + 1 := rfl
      rw [hcn] at hcut
      generalize l.getD k 0 = x at *
      clear hcn hrd hx
      by_cases h0 : x = 0
      · subst h0
        rw [if_pos rfl] at hcut
        go_wp2
        exact ⟨⟨k, by omega, rfl, hcut, trivial⟩, by simp [intOf]⟩
      · rw [if_neg h0] at hcut
        have HZ := Lib.hid hcut.symm
        clear hcut
        have hkl : ((k : Int) + 1 - 1).toNat = k := by omega
        have hb1 : (0 : Int) ≤ (k : Int) + 1 := by omega
        have hb2 : (k : Int) + 1 ≤ (c : Int) := by omega
        cases d
        · go_wp2
          refine wp_region_held_drew (S := (fun w' => w'.cell? ⟨w.heap.size, 0, none⟩ = some (.bool false) ∧ w'.cell? ⟨w.heap.size, 1, none⟩ = some (.slice (some ad) l.length c))) (by kernel_rfl) ?_ (fun hHeld => ?_)
          · (first | (simp [go_sem]; done))
          iterate 3 ((first | refine tk0 ?_ (by decide +kernel) (by rfl) (fun _ _ _ => id) ?_ (by assumption) ?_ | refine tk1 ?_ (by decide +kernel) (by rfl) (fun _ _ _ => id) ?_ (by assumption) ?_ | refine tk2 ?_ (by decide +kernel) (by rfl) (fun _ _ _ => id) ?_ (by assumption) ?_); (rotate_left 1); (focus (intro w_ hSw; (try dsimp only at hSw); go_simp; all_goals (with_reducible rfl); done)); focus try simp only [Act.put, List.setIfInBounds_toArray, List.set_cons_zero, List.set_cons_succ])
          (first | (refine tk3 ?_ (by kernel_rfl) (by rfl) (fun _ _ _ => id) ?_ (by assumption) ?_; rotate_left 1; (focus (intro w_ hSw; (try dsimp only at hSw); go_simp; all_goals (with_reducible rfl); done))) | refine un3 (by kernel_rfl) (by rfl) (fun _ _ _ => id) (by assumption) ?_); focus try simp only [Act.put, List.setIfInBounds_toArray, List.set_cons_zero, List.set_cons_succ]
          (first | (refine tk4 ?_ (by kernel_rfl) (by rfl) (fun _ _ _ => id) ?_ (by assumption) ?_; rotate_left 1; (focus (intro w_ hSw; (try dsimp only at hSw); go_simp; all_goals (with_reducible rfl); done))) | refine un4 (by kernel_rfl) (by rfl) (fun _ _ _ => id) (by assumption) ?_); focus try simp only [Act.put, List.setIfInBounds_toArray, List.set_cons_zero, List.set_cons_succ]
          iterate 6 ((first | refine tk5 ?_ (by decide +kernel) (by rfl) (fun _ _ _ => id) ?_ (by assumption) ?_ | refine tk6 ?_ (by decide +kernel) (by rfl) (fun _ _ _ => id) ?_ (by assumption) ?_ | refine tk7 ?_ (by decide +kernel) (by rfl) (fun _ _ _ => id) ?_ (by assumption) ?_ | refine tk8 ?_ (by decide +kernel) (by rfl) (fun _ _ _ => id) ?_ (by assumption) ?_ | refine tk9 ?_ (by decide +kernel) (by rfl) (fun _ _ _ => id) ?_ (by assumption) ?_ | refine tk10 ?_ (by decide +kernel) (by rfl) (fun _ _ _ => id) ?_ (by assumption) ?_); (rotate_left 1); (focus (intro w_ hSw; (try dsimp only at hSw); go_simp; all_goals (with_reducible rfl); done)); focus try simp only [Act.put, List.setIfInBounds_toArray, List.set_cons_zero, List.set_cons_succ])
          refine wpAnyH_ready (rs := [11]) (by kernel_rfl) (by simp) (ac11 (fun K hK => ?_) (AllReadyH.nil))
          focus go_simp
          refine hK.out _ _ ?_ (fun hHeld => ?_)
          · (first | (simp [go_sem]; done))
          focus clear hK K; try simp only [Act.put, List.setIfInBounds_toArray, List.set_cons_zero, List.set_cons_succ]
          refine wpAnyH_done (by kernel_rfl) ?_ _; rotate_left 1
          all_goals (try go_wp2)
          exact bodyPost_ret (v := .agg #[.bool false, .slice (some ad) (k + 1) c]) (by simp [results, Try.results51, go_sem]) rfl ⟨by rw [HZ.out]; simp, by first | exact (by repeat (first | exact Below.refl _ _ | with_reducible assumption | refine Below.alloc ?_ (by first | exact Nat.le_refl _ | (simp; done) | (simp; omega) | omega) _ | refine Below.setCell ?_ (by first | exact Nat.le_refl _ | (simp; done) | (simp; omega) | omega) _ | refine Below.drew ?_ | refine bdrewN ?_ _)) | exact Below.drew (by repeat (first | exact Below.refl _ _ | with_reducible assumption | refine Below.alloc ?_ (by first | exact Nat.le_refl _ | (simp; done) | (simp; omega) | omega) _ | refine Below.setCell ?_ (by first | exact Nat.le_refl _ | (simp; done) | (simp; omega) | omega) _ | refine Below.drew ?_ | refine bdrewN ?_ _))⟩
        · go_wp2
          refine wp_region_held_drew (S := (fun w' => w'.cell? ⟨w.heap.size, 0, none⟩ = some (.bool true) ∧ w'.cell? ⟨w.heap.size, 1, none⟩ = some (.slice (some ad) l.length c))) (by kernel_rfl) ?_ (fun hHeld => ?_)
          · (first | (simp [go_sem]; done))
          iterate 3 ((first | refine tk0 ?_ (by decide +kernel) (by rfl) (fun _ _ _ => id) ?_ (by assumption) ?_ | refine tk1 ?_ (by decide +kernel) (by rfl) (fun _ _ _ => id) ?_ (by assumption) ?_ | refine tk2 ?_ (by decide +kernel) (by rfl) (fun _ _ _ => id) ?_ (by assumption) ?_); (rotate_left 1); (focus (intro w_ hSw; (try dsimp only at hSw); go_simp; all_goals (with_reducible rfl); done)); focus try simp only [Act.put, List.setIfInBounds_toArray, List.set_cons_zero, List.set_cons_succ])
          (first | (refine tk3 ?_ (by kernel_rfl) (by rfl) (fun _ _ _ => id) ?_ (by assumption) ?_; rotate_left 1; (focus (intro w_ hSw; (try dsimp only at hSw); go_simp; all_goals (with_reducible rfl); done))) | refine un3 (by kernel_rfl) (by rfl) (fun _ _ _ => id) (by assumption) ?_); focus try simp only [Act.put, List.setIfInBounds_toArray, List.set_cons_zero, List.set_cons_succ]
          (first | (refine tk4 ?_ (by kernel_rfl) (by rfl) (fun _ _ _ => id) ?_ (by assumption) ?_; rotate_left 1; (focus (intro w_ hSw; (try dsimp only at hSw); go_simp; all_goals (with_reducible rfl); done))) | refine un4 (by kernel_rfl) (by rfl) (fun _ _ _ => id) (by assumption) ?_); focus try simp only [Act.put, List.setIfInBounds_toArray, List.set_cons_zero, List.set_cons_succ]
          iterate 6 ((first | refine tk5 ?_ (by decide +kernel) (by rfl) (fun _ _ _ => id) ?_ (by assumption) ?_ | refine tk6 ?_ (by decide +kernel) (by rfl) (fun _ _ _ => id) ?_ (by assumption) ?_ | refine tk7 ?_ (by decide +kernel) (by rfl) (fun _ _ _ => id) ?_ (by assumption) ?_ | refine tk8 ?_ (by decide +kernel) (by rfl) (fun _ _ _ => id) ?_ (by assumption) ?_ | refine tk9 ?_ (by decide +kernel) (by rfl) (fun _ _ _ => id) ?_ (by assumption) ?_ | refine tk10 ?_ (by decide +kernel) (by rfl) (fun _ _ _ => id) ?_ (by assumption) ?_); (rotate_left 1); (focus (intro w_ hSw; (try dsimp only at hSw); go_simp; all_goals (with_reducible rfl); done)); focus try simp only [Act.put, List.setIfInBounds_toArray, List.set_cons_zero, List.set_cons_succ])
          refine wpAnyH_ready (rs := [11]) (by kernel_rfl) (by simp) (ac11 (fun K hK => ?_) (AllReadyH.nil))
          focus go_simp
          refine hK.out _ _ ?_ (fun hHeld => ?_)
          · (first | (simp [go_sem]; done))
          focus clear hK K; try simp only [Act.put, List.setIfInBounds_toArray, List.set_cons_zero, List.set_cons_succ]
          refine wpAnyH_done (by kernel_rfl) ?_ _; rotate_left 1
          all_goals (try go_wp2)
          exact bodyPost_ret (v := .agg #[.bool true, .slice (some ad) (k + 1) c]) (by simp [results, Try.results51, go_sem]) rfl ⟨by rw [HZ.out]; simp, by first | exact (by repeat (first | exact Below.refl _ _ | with_reducible assumption | refine Below.alloc ?_ (by first | exact Nat.le_refl _ | (simp; done) | (simp; omega) | omega) _ | refine Below.setCell ?_ (by first | exact Nat.le_refl _ | (simp; done) | (simp; omega) | omega) _ | refine Below.drew ?_ | refine bdrewN ?_ _)) | exact Below.drew (by repeat (first | exact Below.refl _ _ | with_reducible assumption | refine Below.alloc ?_ (by first | exact Nat.le_refl _ | (simp; done) | (simp; omega) | omega) _ | refine Below.setCell ?_ (by first | exact Nat.le_refl _ | (simp; done) | (simp; omega) | omega) _ | refine Below.drew ?_ | refine bdrewN ?_ _))⟩
end Go.Proofs.Ytoodfkbciodapaa.Ref
