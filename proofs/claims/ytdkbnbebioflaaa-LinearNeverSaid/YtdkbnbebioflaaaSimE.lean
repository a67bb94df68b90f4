/- Plain: what the simplex's ends say. -/
import Derived.Test.YtdkbnbebioflaaaSimC
namespace Go.Proofs.Ytdkbnbebioflaaa.Sim
set_option linter.unusedVariables false
set_option linter.unusedSimpArgs false

/-- One exchange more. -/
theorem Run.snoc {q : Qu} {S : Nat → St} {a v : Nat → Nat} {K : Nat} (h : Run q S a v K) {i u : Nat} (hw : Wrong q (S K) i) (hh : Helps q (S K) i u) :
    ∃ S' a' v', Run q S' a' v' (K + 1) ∧ S' (K + 1) = step q (S K) i u := by
  refine ⟨fun k => if k ≤ K then S k else step q (S K) i u, fun k => if k < K then a k else i, fun k => if k < K then v k else u, ?_, by show (if K + 1 ≤ K then _ else _) = _; rw [if_neg (by omega)]⟩
  refine ⟨by simpa using h.first, fun k hk => ?_, fun k hk => ?_, fun k hk => ?_⟩
  · simp only [if_pos (show k ≤ K by omega)]
    by_cases e : k < K
    · rw [if_pos e]; exact h.wrong k e
    · rw [if_neg e, show k = K by omega]; exact hw
  · simp only [if_pos (show k ≤ K by omega)]
    by_cases e : k < K
    · rw [if_pos e, if_pos e]; exact h.helps k e
    · rw [if_neg e, if_neg e, show k = K by omega]; exact hh
  · simp only [if_pos (show k ≤ K by omega)]
    by_cases e : k < K
    · rw [if_pos (by omega), if_pos e, if_pos e]; exact h.next k e
    · rw [if_neg (by omega), if_neg e, if_neg e, show k = K by omega]
theorem Run.zero (q : Qu) : Run q (fun _ => start q) (fun _ => 0) (fun _ => 0) 0 := ⟨start_inv q, fun k hk => by omega, fun k hk => by omega, fun k hk => by omega⟩

/-- There is not both a point and weights. -/
theorem sumN_swap (f : Nat → Nat → Rat) (m : Nat) : ∀ n, sumN m (fun j => sumN n (fun k => f j k)) = sumN n (fun k => sumN m (fun j => f j k))
  | 0 => by simp only [sumN]; exact sumN_zero fun k hk => rfl
  | n + 1 => by simp only [sumN]; rw [sumN_add, sumN_swap f m n]
theorem sumN_le {f g : Nat → Rat} : ∀ {n : Nat}, (∀ k, k < n → f k ≤ g k) → sumN n f ≤ sumN n g
  | 0, _ => by rw [sumN, sumN]; grind
  | n + 1, h => by
    rw [sumN, sumN]
    have h1 := sumN_le (f := f) (g := g) (n := n) (fun k hk => h k (by omega))
    have h2 := h n (by omega)
    grind
/-- With C x + K at most 0 and weights y. -/
theorem not_both {n m : Nat} {C : Nat → Nat → Rat} {K y x : Nat → Rat} (hx : ∀ j, j < m → sumN n (fun k => C j k * x k) + K j ≤ 0) (hy : ∀ j, j < m → 0 ≤ y j) (hz : ∀ k, k < n → sumN m (fun j => y j * C j k) = 0) (hp : 0 < sumN m (fun j => y j * K j)) : False := by
  have h1 : sumN m (fun j => y j * sumN n (fun k => C j k * x k)) = 0 := by
    have e : ∀ j, j < m → y j * sumN n (fun k => C j k * x k) = sumN n (fun k => y j * (C j k * x k)) := fun j hj => (sumN_mul _ _ _).symm
    rw [sumN_congr e, sumN_swap]
    refine sumN_zero fun k hk => ?_
    have e2 : ∀ j, j < m → y j * (C j k * x k) = x k * (y j * C j k) := fun j hj => by grind
    rw [sumN_congr e2, sumN_mul, hz k hk]; grind
  have h2 : sumN m (fun j => y j * sumN n (fun k => C j k * x k) + y j * K j) ≤ sumN m (fun _ => 0) := by
    refine sumN_le fun j hj => ?_
    have a := hx j hj
    have b := Rat.mul_nonneg (a := y j) (b := -(sumN n (fun k => C j k * x k) + K j)) (hy j hj) (by grind)
    grind
  rw [sumN_add, h1, sumN_zero (f := fun _ => (0 : Rat)) (fun _ _ => rfl)] at h2
  grind
end Go.Proofs.Ytdkbnbebioflaaa.Sim
