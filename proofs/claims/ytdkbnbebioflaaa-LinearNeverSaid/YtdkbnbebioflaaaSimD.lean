/- Plain: how many exchanges there are at most. -/
import Derived.Test.YtdkbnbebioflaaaSimB
namespace Go.Proofs.Ytdkbnbebioflaaa.Sim
set_option linter.unusedVariables false
set_option linter.unusedSimpArgs false

theorem nodup_sub {α : Type} [BEq α] [LawfulBEq α] : ∀ (l l' : List α), l.Nodup → (∀ x, x ∈ l → x ∈ l') → l.length ≤ l'.length
  | [], l', _, _ => by simp
  | a :: l, l', h, hs => by
    rw [List.nodup_cons] at h
    have ha := hs a (by simp)
    have h1 := nodup_sub l (l'.erase a) h.2 (fun x hx => (List.mem_erase_of_ne (fun e => h.1 (by rw [← e]; exact hx))).2 (hs x (by simp [hx])))
    have h2 := List.length_erase_of_mem ha
    have h3 := List.length_pos_of_mem ha
    rw [List.length_cons]; omega

theorem nodup_map_range {α : Type} (f : Nat → α) : ∀ n, (∀ i j, i < n → j < n → f i = f j → i = j) → ((List.range n).map f).Nodup
  | 0, _ => by simp
  | n + 1, h => by
    rw [List.range_succ, List.map_append, List.nodup_append]
    refine ⟨nodup_map_range f n (fun i j hi hj => h i j (by omega) (by omega)), by simp, fun x hx y hy e => ?_⟩
    obtain ⟨i, hi, rfl⟩ := List.mem_map.1 hx
    rw [List.mem_range] at hi
    simp at hy
    have := h i n (by omega) (by omega) (by rw [e, hy])
    omega

/-- All choices of k out of the first N. -/
def combos : Nat → Nat → List (List Nat)
  | _, 0 => [[]]
  | 0, _ + 1 => []
  | N + 1, k + 1 => combos N (k + 1) ++ (combos N k).map (fun l => l ++ [N])
def cnt : Nat → Nat → Nat
  | _, 0 => 1
  | 0, _ + 1 => 0
  | N + 1, k + 1 => cnt N (k + 1) + cnt N k
theorem combos_len : ∀ N k, (combos N k).length = cnt N k
  | N, 0 => by cases N <;> rfl
  | 0, k + 1 => rfl
  | N + 1, k + 1 => by rw [combos, cnt, List.length_append, List.length_map, combos_len N (k + 1), combos_len N k]
theorem filter_combos (P : Nat → Bool) : ∀ N, (List.range N).filter P ∈ combos N ((List.range N).filter P).length
  | 0 => by simp [combos]
  | N + 1 => by
    have ih := filter_combos P N
    rw [List.range_succ, List.filter_append]
    by_cases h : P N = true
    · rw [List.filter_cons_of_pos h, List.filter_nil, List.length_append, List.length_singleton, combos]
      exact List.mem_append.2 (.inr (List.mem_map.2 ⟨_, ih, rfl⟩))
    · rw [List.filter_cons_of_neg h, List.filter_nil, List.append_nil]
      cases hl : ((List.range N).filter P).length with
      | zero => rw [List.length_eq_zero_iff.1 hl]; simp [combos]
      | succ k => rw [hl] at ih; rw [combos]; exact List.mem_append.2 (.inl ih)

def isB (q : Qu) (s : St) (v : Nat) : Bool := (List.range q.m).any (fun i => s.bas i == v)
theorem isB_iff {q : Qu} {s : St} {v : Nat} : isB q s v = true ↔ Basic q s v := by
  unfold isB Basic
  simp [List.any_eq_true, List.mem_range]
/-- Who is not basic. -/
def nb (q : Qu) (s : St) : List Nat := (List.range q.N).filter (fun v => !isB q s v)
theorem mem_nb {q : Qu} {s : St} {v : Nat} : v ∈ nb q s ↔ v < q.N ∧ ¬ Basic q s v := by
  unfold nb
  rw [List.mem_filter, List.mem_range, ← isB_iff]
  simp
theorem filter_both (P : Nat → Bool) : ∀ l : List Nat, (l.filter P).length + (l.filter fun v => !P v).length = l.length
  | [] => rfl
  | a :: l => by
    have := filter_both P l
    cases h : P a <;> simp [List.filter_cons, h] <;> omega
theorem nb_len {q : Qu} {s : St} (h : Inv q s) : (nb q s).length = q.n := by
  have h1 := filter_both (isB q s) (List.range q.N)
  rw [List.length_range] at h1
  have nd : ((List.range q.m).map s.bas).Nodup := nodup_map_range s.bas q.m h.inj
  have a1 := nodup_sub ((List.range q.m).map s.bas) ((List.range q.N).filter (isB q s)) nd (fun x hx => by
    obtain ⟨i, hi, rfl⟩ := List.mem_map.1 hx
    rw [List.mem_range] at hi
    exact List.mem_filter.2 ⟨List.mem_range.2 (h.lt i hi), isB_iff.2 ⟨i, hi, rfl⟩⟩)
  have a2 := nodup_sub ((List.range q.N).filter (isB q s)) ((List.range q.m).map s.bas) (List.nodup_range.filter _) (fun x hx => by
    obtain ⟨-, hb⟩ := List.mem_filter.1 hx
    obtain ⟨i, hi, rfl⟩ := isB_iff.1 hb
    exact List.mem_map.2 ⟨i, List.mem_range.2 hi, rfl⟩)
  rw [List.length_map, List.length_range] at a1 a2
  unfold nb
  unfold Qu.N at *
  omega

/-- There are fewer exchanges than bases. -/
theorem Run.short {q : Qu} {S : Nat → St} {a v : Nat → Nat} {K : Nat} (h : Run q S a v K) : K < cnt q.N q.n := by
  have key : ∀ i j, i < j → j < K + 1 → nb q (S i) = nb q (S j) → False := by
    intro i j hij hj e
    refine h.bland (i := i) (j := j) hij (by omega) (fun u => ?_)
    have ii := h.inv i (by omega)
    have ij := h.inv j (by omega)
    by_cases hu : u < q.N
    · have hm : u ∈ nb q (S i) ↔ u ∈ nb q (S j) := by rw [e]
      rw [mem_nb, mem_nb] at hm
      constructor
      · intro hb; refine Classical.byContradiction fun hn => ?_; exact (hm.2 ⟨hu, hn⟩).2 hb
      · intro hb; refine Classical.byContradiction fun hn => ?_; exact (hm.1 ⟨hu, hn⟩).2 hb
    · constructor
      · rintro ⟨x, hx, rfl⟩; exact absurd (ii.lt x hx) hu
      · rintro ⟨x, hx, rfl⟩; exact absurd (ij.lt x hx) hu
  have nd : ((List.range (K + 1)).map (fun k => nb q (S k))).Nodup := by
    refine nodup_map_range _ _ (fun i j hi hj e => ?_)
    by_cases hij : i < j
    · exact (key i j hij (by omega) e).elim
    · by_cases hji : j < i
      · exact (key j i hji (by omega) e.symm).elim
      · omega
  have hs := nodup_sub _ (combos q.N q.n) nd (fun x hx => by
    obtain ⟨k, hk, rfl⟩ := List.mem_map.1 hx
    rw [List.mem_range] at hk
    have := filter_combos (fun v => !isB q (S k) v) q.N
    have hl := nb_len (h.inv k (by omega))
    unfold nb at hl ⊢
    rw [hl] at this
    exact this)
  rw [List.length_map, List.length_range, combos_len] at hs
  omega
end Go.Proofs.Ytdkbnbebioflaaa.Sim
