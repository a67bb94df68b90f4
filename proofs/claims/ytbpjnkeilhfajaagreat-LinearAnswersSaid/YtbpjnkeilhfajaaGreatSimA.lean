
section
/- Plain: a simplex over the rationals: its states, one exchange, and what stays. -/
namespace Go.Proofs.YtbpjnkeilhfajaaGreat.Sim
set_option linter.unusedVariables false
set_option linter.unusedSimpArgs false

/-- A sum of the first ones. -/
def sumN : Nat → (Nat → Rat) → Rat
  | 0, _ => 0
  | n + 1, f => sumN n f + f n
theorem sumN_congr {f g : Nat → Rat} : ∀ {n : Nat}, (∀ k, k < n → f k = g k) → sumN n f = sumN n g
  | 0, _ => rfl
  | n + 1, h => by rw [sumN, sumN, sumN_congr (fun k hk => h k (by omega)), h n (by omega)]
theorem sumN_zero {f : Nat → Rat} : ∀ {n : Nat}, (∀ k, k < n → f k = 0) → sumN n f = 0
  | 0, _ => rfl
  | n + 1, h => by rw [sumN, sumN_zero (fun k hk => h k (by omega)), h n (by omega)]; grind
theorem sumN_add (f g : Nat → Rat) : ∀ n, sumN n (fun k => f k + g k) = sumN n f + sumN n g
  | 0 => by rw [sumN, sumN, sumN]; grind
  | n + 1 => by rw [sumN, sumN, sumN, sumN_add f g n]; grind
theorem sumN_mul (c : Rat) (f : Nat → Rat) : ∀ n, sumN n (fun k => c * f k) = c * sumN n f
  | 0 => by rw [sumN, sumN]; grind
  | n + 1 => by rw [sumN, sumN, sumN_mul c f n]; grind
/-- One of them alone. -/
theorem sumN_one (v : Nat) (g : Nat → Rat) : ∀ n, sumN n (fun k => if k = v then g k else 0) = if v < n then g v else 0
  | 0 => by rw [sumN, if_neg (by omega)]
  | n + 1 => by
    rw [sumN, sumN_one v g n]
    by_cases h : n = v
    · subst h; rw [if_neg (by omega), if_pos rfl, if_pos (by omega)]; grind
    · rw [if_neg h]
      by_cases h2 : v < n
      · rw [if_pos h2, if_pos (by omega)]; grind
      · rw [if_neg h2, if_neg (by omega)]; grind
theorem sumN_split (f : Nat → Rat) (a : Nat) : ∀ b, sumN (a + b) f = sumN a f + sumN b (fun k => f (a + k))
  | 0 => by rw [sumN]; grind
  | b + 1 => by rw [← Nat.add_assoc, sumN, sumN, sumN_split f a b]; grind

/-- A state: what is basic in each row, the rows, and what all unknowns are. -/
structure St where
  bas : Nat → Nat
  row : Nat → Nat → Rat
  val : Nat → Rat

/-- What is asked: n unknowns, m rows, their numbers, their limits (by unknown: n is the first row's). -/
structure Qu where
  n : Nat
  m : Nat
  C : Nat → Nat → Rat
  lim : Nat → Rat

def Qu.N (q : Qu) : Nat := q.n + q.m
/-- The rows' own equations. -/
def Sub (q : Qu) (p : Nat → Rat) : Prop := ∀ j, j < q.m → p (q.n + j) = sumN q.n (fun k => q.C j k * p k)
/-- What a state says. -/
def Dict (q : Qu) (s : St) (p : Nat → Rat) : Prop := ∀ i, i < q.m → p (s.bas i) = sumN q.N (fun k => s.row i k * p k)
def Basic (q : Qu) (s : St) (v : Nat) : Prop := ∃ i, i < q.m ∧ s.bas i = v
structure Inv (q : Qu) (s : St) : Prop where
  inj : ∀ i j, i < q.m → j < q.m → s.bas i = s.bas j → i = j
  lt : ∀ i, i < q.m → s.bas i < q.N
  zero : ∀ i j, i < q.m → j < q.m → s.row i (s.bas j) = 0
  eqv : ∀ p, Dict q s p ↔ Sub q p
  val : Sub q s.val
  low : ∀ v, v < q.n → ¬ Basic q s v → s.val v = 0
  high : ∀ v, q.n ≤ v → v < q.N → ¬ Basic q s v → s.val v = q.lim v

/-- The beginning. -/
def start (q : Qu) : St := ⟨fun i => q.n + i, fun i k => if k < q.n then q.C i k else 0, fun _ => 0⟩
theorem start_sum (q : Qu) (i : Nat) (p : Nat → Rat) : sumN q.N (fun k => (start q).row i k * p k) = sumN q.n (fun k => q.C i k * p k) := by
  unfold Qu.N
  rw [sumN_split]
  have h1 : sumN q.n (fun k => (start q).row i k * p k) = sumN q.n (fun k => q.C i k * p k) := sumN_congr fun k hk => by simp only [start, if_pos hk]
  have h2 : sumN q.m (fun k => (start q).row i (q.n + k) * p (q.n + k)) = 0 := sumN_zero fun k hk => by simp only [start]; rw [if_neg (by omega)]; grind
  rw [h1, h2]; grind
theorem start_inv (q : Qu) : Inv q (start q) where
  inj i j _ _ h := by simp only [start] at h; omega
  lt i h := by simp only [start, Qu.N]; omega
  zero i j _ _ := by simp only [start]; rw [if_neg (by omega)]
  eqv p := by
    constructor
    · intro h j hj
      have := h j hj
      rw [start_sum] at this
      exact this
    · intro h j hj
      rw [start_sum]
      exact h j hj
  val j hj := by
    simp only [start]
    rw [sumN_zero]
    intro k hk; grind
  low v h _ := rfl
  high v h1 h2 h3 := absurd ⟨v - q.n, by simp only [Qu.N] at h2; omega, by simp only [start]; omega⟩ h3

/-- What the unknown that comes in is of the others. -/
def next (s : St) (at_ v : Nat) : Nat → Rat := fun k => if k = v then 0 else if k = s.bas at_ then 1 / s.row at_ v else -(s.row at_ k / s.row at_ v)
/-- An exchange. -/
def step (q : Qu) (s : St) (at_ v : Nat) : St where
  bas i := if i = at_ then v else s.bas i
  row i k := if i = at_ then next s at_ v k else (if k = v then 0 else s.row i k) + s.row i v * next s at_ v k
  val u := s.val u + (q.lim (s.bas at_) - s.val (s.bas at_)) / s.row at_ v * (if u = v then 1 else 0) + (q.lim (s.bas at_) - s.val (s.bas at_)) / s.row at_ v * dir q s v u
where
  /-- by how much a basic unknown goes with v -/
  dir (q : Qu) (s : St) (v u : Nat) : Rat := sumN q.m (fun i => if s.bas i = u then s.row i v else 0)

theorem dir_bas {q : Qu} {s : St} (h : Inv q s) (v : Nat) {i : Nat} (hi : i < q.m) : step.dir q s v (s.bas i) = s.row i v := by
  unfold step.dir
  rw [sumN_congr (g := fun k => if k = i then s.row k v else 0)]
  · rw [sumN_one i (fun k => s.row k v), if_pos hi]
  · intro k hk
    by_cases e : k = i
    · rw [if_pos (by rw [e]), if_pos e]
    · rw [if_neg (fun e' => e (h.inj k i hk hi e')), if_neg e]
theorem dir_non {q : Qu} {s : St} {v u : Nat} (hu : ¬ Basic q s u) : step.dir q s v u = 0 := by
  unfold step.dir
  exact sumN_zero fun k hk => if_neg (fun e => hu ⟨k, hk, e⟩)

theorem next_sum {q : Qu} {s : St} (h : Inv q s) {at_ v : Nat} (ha : at_ < q.m) (hv : v < q.N) (hc : s.row at_ v ≠ 0) (p : Nat → Rat) :
    sumN q.N (fun k => next s at_ v k * p k) = (p (s.bas at_) - sumN q.N (fun k => s.row at_ k * p k)) / s.row at_ v + p v := by
  have hw : s.bas at_ < q.N := h.lt at_ ha
  have hz : s.row at_ (s.bas at_) = 0 := h.zero at_ at_ ha ha
  have hne : v ≠ s.bas at_ := fun e => hc (by rw [e]; exact hz)
  generalize hcc : s.row at_ v = c at *
  have e : ∀ k, k < q.N → next s at_ v k * p k = ((1 / c) * (if k = s.bas at_ then p k else 0) + (-(1 / c)) * (s.row at_ k * p k)) + (if k = v then p k else 0) := by
    intro k hk
    unfold next
    rw [hcc]
    by_cases h1 : k = v
    · subst h1
      rw [if_pos rfl, if_pos rfl, if_neg hne, hcc]; grind
    · rw [if_neg h1, if_neg h1]
      by_cases h2 : k = s.bas at_
      · rw [if_pos h2, if_pos h2, h2, hz]; grind
      · rw [if_neg h2, if_neg h2]; grind
  rw [sumN_congr e, sumN_add, sumN_add, sumN_mul, sumN_mul, sumN_one, sumN_one, if_pos hw, if_pos hv]
  grind
theorem row_sum {q : Qu} {s : St} (h : Inv q s) {at_ v : Nat} (ha : at_ < q.m) (hv : v < q.N) (hc : s.row at_ v ≠ 0) (p : Nat → Rat) {i : Nat} (hi : i ≠ at_) :
    sumN q.N (fun k => (step q s at_ v).row i k * p k) = sumN q.N (fun k => s.row i k * p k) + s.row i v * ((p (s.bas at_) - sumN q.N (fun k => s.row at_ k * p k)) / s.row at_ v) := by
  have e : ∀ k, k < q.N → (step q s at_ v).row i k * p k = (s.row i k * p k + (-(s.row i v)) * (if k = v then p k else 0)) + s.row i v * (next s at_ v k * p k) := by
    intro k hk
    simp only [step, if_neg hi]
    by_cases h1 : k = v
    · subst h1; rw [if_pos rfl, if_pos rfl]; grind
    · rw [if_neg h1, if_neg h1]; grind
  rw [sumN_congr e, sumN_add, sumN_add, sumN_mul, sumN_mul, sumN_one, if_pos hv, next_sum h ha hv hc]
  grind

theorem not_basic {q : Qu} {s : St} (h : Inv q s) {at_ v : Nat} (ha : at_ < q.m) (hc : s.row at_ v ≠ 0) : ¬ Basic q s v := by
  rintro ⟨i, hi, rfl⟩
  exact hc (h.zero at_ i ha hi)
theorem step_dict {q : Qu} {s : St} (h : Inv q s) {at_ v : Nat} (ha : at_ < q.m) (hv : v < q.N) (hc : s.row at_ v ≠ 0) (p : Nat → Rat) : Dict q (step q s at_ v) p ↔ Dict q s p := by
  constructor
  · intro hd
    have h1 := hd at_ ha
    simp only [step, if_true] at h1
    rw [next_sum h ha hv hc] at h1
    have h2 : p (s.bas at_) = sumN q.N (fun k => s.row at_ k * p k) := by grind
    intro i hi
    by_cases e : i = at_
    · rw [e]; exact h2
    · have h3 := hd i hi
      rw [row_sum h ha hv hc p e] at h3
      simp only [step, if_neg e] at h3
      grind
  · intro hd i hi
    have h1 := hd at_ ha
    by_cases e : i = at_
    · subst e
      simp only [step, if_true]
      rw [next_sum h ha hv hc, ← h1]; grind
    · rw [row_sum h ha hv hc p e, ← h1, ← hd i hi]
      simp only [step, if_neg e]
      grind
theorem step_basic {q : Qu} {s : St} (h : Inv q s) {at_ v : Nat} (ha : at_ < q.m) (hc : s.row at_ v ≠ 0) (u : Nat) : Basic q (step q s at_ v) u ↔ (u = v ∨ (Basic q s u ∧ u ≠ s.bas at_)) := by
  constructor
  · rintro ⟨i, hi, rfl⟩
    simp only [step]
    by_cases e : i = at_
    · rw [if_pos e]; exact .inl rfl
    · rw [if_neg e]; exact .inr ⟨⟨i, hi, rfl⟩, fun e' => e (h.inj i at_ hi ha e')⟩
  · rintro (rfl | ⟨⟨i, hi, rfl⟩, hne⟩)
    · exact ⟨at_, ha, by simp [step]⟩
    · exact ⟨i, hi, by simp only [step]; rw [if_neg (fun e => hne (by rw [e]))]⟩
/-- What an exchange makes of what the unknowns are. -/
theorem step_val {q : Qu} {s : St} (h : Inv q s) {at_ v : Nat} (ha : at_ < q.m) (hc : s.row at_ v ≠ 0) :
    (step q s at_ v).val (s.bas at_) = q.lim (s.bas at_) ∧ (step q s at_ v).val v = s.val v + (q.lim (s.bas at_) - s.val (s.bas at_)) / s.row at_ v ∧
    (∀ i, i < q.m → i ≠ at_ → (step q s at_ v).val (s.bas i) = s.val (s.bas i) + s.row i v * ((q.lim (s.bas at_) - s.val (s.bas at_)) / s.row at_ v)) ∧
    (∀ u, u ≠ v → ¬ Basic q s u → (step q s at_ v).val u = s.val u) := by
  have hn := not_basic h ha hc
  have hne : ∀ i, i < q.m → s.bas i ≠ v := fun i hi e => hn ⟨i, hi, e⟩
  refine ⟨?_, ?_, ?_, ?_⟩
  · simp only [step]; rw [if_neg (hne at_ ha), dir_bas h v ha]; grind
  · simp only [step, if_true]; rw [dir_non hn]; grind
  · intro i hi hia; simp only [step]; rw [if_neg (hne i hi), dir_bas h v hi]; grind
  · intro u hu hb; simp only [step]; rw [if_neg hu, dir_non hb]; grind
theorem step_inv {q : Qu} {s : St} (h : Inv q s) {at_ v : Nat} (ha : at_ < q.m) (hv : v < q.N) (hc : s.row at_ v ≠ 0) (hw : q.n ≤ s.bas at_) : Inv q (step q s at_ v) := by
  have hn := not_basic h ha hc
  have hne : ∀ i, i < q.m → s.bas i ≠ v := fun i hi e => hn ⟨i, hi, e⟩
  obtain ⟨v1, v2, v3, v4⟩ := step_val h ha hc
  refine ⟨?_, ?_, ?_, fun p => (step_dict h ha hv hc p).trans (h.eqv p), ?_, ?_, ?_⟩
  · intro i j hi hj e
    simp only [step] at e
    by_cases e1 : i = at_ <;> by_cases e2 : j = at_
    · omega
    · rw [if_pos e1, if_neg e2] at e; exact absurd e.symm (hne j hj)
    · rw [if_neg e1, if_pos e2] at e; exact absurd e (hne i hi)
    · rw [if_neg e1, if_neg e2] at e; exact h.inj i j hi hj e
  · intro i hi
    simp only [step]
    by_cases e1 : i = at_
    · rw [if_pos e1]; exact hv
    · rw [if_neg e1]; exact h.lt i hi
  · intro i j hi hj
    have nz : ∀ j, j < q.m → j ≠ at_ → next s at_ v (s.bas j) = 0 := fun j hj hja => by
      unfold next
      rw [if_neg (hne j hj), if_neg (fun e => hja (h.inj j at_ hj ha e)), h.zero at_ j ha hj]; grind
    have nv : next s at_ v v = 0 := by unfold next; rw [if_pos rfl]
    simp only [step]
    by_cases e2 : j = at_
    · rw [if_pos e2]
      by_cases e1 : i = at_
      · rw [if_pos e1]; exact nv
      · rw [if_neg e1, if_pos rfl, nv]; grind
    · rw [if_neg e2]
      by_cases e1 : i = at_
      · rw [if_pos e1]; exact nz j hj e2
      · rw [if_neg e1, if_neg (hne j hj), nz j hj e2, h.zero i j hi hj]; grind
  · rw [← h.eqv]
    have hd : Dict q s s.val := (h.eqv _).2 h.val
    intro i hi
    have key : sumN q.N (fun k => s.row i k * (step q s at_ v).val k) = sumN q.N (fun k => s.row i k * s.val k) + s.row i v * ((q.lim (s.bas at_) - s.val (s.bas at_)) / s.row at_ v) := by
      have e : ∀ k, k < q.N → s.row i k * (step q s at_ v).val k = s.row i k * s.val k + (if k = v then s.row i k * ((q.lim (s.bas at_) - s.val (s.bas at_)) / s.row at_ v) else 0) := by
        intro k hk
        by_cases hb : Basic q s k
        · obtain ⟨j, hj, rfl⟩ := hb
          rw [h.zero i j hi hj, if_neg (hne j hj)]; grind
        · by_cases hkv : k = v
          · subst hkv; rw [v2, if_pos rfl]; grind
          · rw [v4 k hkv hb, if_neg hkv]; grind
      rw [sumN_congr e, sumN_add, sumN_one v (fun k => s.row i k * ((q.lim (s.bas at_) - s.val (s.bas at_)) / s.row at_ v)), if_pos hv]
    rw [key, ← hd i hi]
    by_cases e : i = at_
    · subst e; rw [v1]; grind
    · rw [v3 i hi e]
  · intro u hu hb
    rw [step_basic h ha hc] at hb
    by_cases hw2 : u = s.bas at_
    · omega
    · rw [v4 u (fun e => hb (.inl e)) (fun k => hb (.inr ⟨k, hw2⟩))]
      exact h.low u hu (fun k => hb (.inr ⟨k, hw2⟩))
  · intro u hu1 hu2 hb
    rw [step_basic h ha hc] at hb
    by_cases hw2 : u = s.bas at_
    · rw [hw2]; exact v1
    · rw [v4 u (fun e => hb (.inl e)) (fun k => hb (.inr ⟨k, hw2⟩))]
      exact h.high u hu1 hu2 (fun k => hb (.inr ⟨k, hw2⟩))
end Go.Proofs.YtbpjnkeilhfajaaGreat.Sim
end

section
/- Plain: the simplex that takes the least one comes to no basis twice (Bland). -/
namespace Go.Proofs.YtbpjnkeilhfajaaGreat.Sim
set_option linter.unusedVariables false
set_option linter.unusedSimpArgs false
theorem sumN_nonneg {f : Nat → Rat} : ∀ {n : Nat}, (∀ k, k < n → 0 ≤ f k) → 0 ≤ sumN n f
 | 0, _ => by rw [sumN]; grind
 | n + 1, h => by
  rw [sumN]
  have h1 := sumN_nonneg (f := f) (n := n) (fun k hk => h k (by omega))
  have h2 := h n (by omega)
  grind
theorem sumN_pos {f : Nat → Rat} {r : Nat} : ∀ {n : Nat}, (∀ k, k < n → 0 ≤ f k) → r < n → 0 < f r → 0 < sumN n f
 | 0, _, hr, _ => by omega
 | n + 1, h, hr, hp => by
  rw [sumN]
  have h2 := h n (by omega)
  by_cases e : r = n
  ·subst e
   have h1 := sumN_nonneg (f := f) (n := r) (fun k hk => h k (by omega))
   grind
  ·have h1 := sumN_pos (f := f) (n := n) (fun k hk => h k (by omega)) (by omega) hp
   grind
def Wrong (q : Qu) (s : St) (i : Nat) : Prop :=
 i < q.m ∧ q.n ≤ s.bas i ∧ q.lim (s.bas i) < s.val (s.bas i) ∧ ∀ j, j < q.m → q.n ≤ s.bas j → q.lim (s.bas j) < s.val (s.bas j) → s.bas i ≤ s.bas j
def Good (q : Qu) (s : St) (i u : Nat) : Prop := 0 < s.row i u ∨ (s.row i u < 0 ∧ (u < q.n ∨ s.val u < q.lim u))
def Helps (q : Qu) (s : St) (i v : Nat) : Prop := v < q.N ∧ Good q s i v ∧ ∀ u, u < v → ¬ Good q s i u
theorem good_ne {q : Qu} {s : St} {i u : Nat} (h : Good q s i u) : s.row i u ≠ 0 := by
 rcases h with h | h
 ·grind
 ·have := h.1; grind
structure Run (q : Qu) (S : Nat → St) (a v : Nat → Nat) (K : Nat) : Prop where
 first : Inv q (S 0)
 wrong : ∀ k, k < K → Wrong q (S k) (a k)
 helps : ∀ k, k < K → Helps q (S k) (a k) (v k)
 next : ∀ k, k < K → S (k + 1) = step q (S k) (a k) (v k)
theorem Run.inv {q : Qu} {S : Nat → St} {a v : Nat → Nat} {K : Nat} (h : Run q S a v K) : ∀ k, k ≤ K → Inv q (S k)
 | 0, _ => h.first
 | k + 1, hk => by
  rw [h.next k (by omega)]
  have hw := h.wrong k (by omega)
  have hh := h.helps k (by omega)
  exact step_inv (h.inv k (by omega)) hw.1 hh.1 (good_ne hh.2.1) hw.2.1
def out (S : Nat → St) (a : Nat → Nat) (k : Nat) : Nat := (S k).bas (a k)
section
variable {q : Qu} {S : Nat → St} {a v : Nat → Nat} {K : Nat}
theorem Run.basic (h : Run q S a v K) {k : Nat} (hk : k < K) (u : Nat) : Basic q (S (k + 1)) u ↔ (u = v k ∨ (Basic q (S k) u ∧ u ≠ out S a k)) := by
 rw [h.next k hk]
 exact step_basic (h.inv k (by omega)) (h.wrong k hk).1 (good_ne (h.helps k hk).2.1) u
theorem Run.enters (h : Run q S a v K) {k : Nat} (hk : k < K) : ¬ Basic q (S k) (v k) := not_basic (h.inv k (by omega)) (h.wrong k hk).1 (good_ne (h.helps k hk).2.1)
theorem Run.leaves (h : Run q S a v K) {k : Nat} (hk : k < K) : Basic q (S k) (out S a k) ∧ ¬ Basic q (S (k + 1)) (out S a k) := by
 have hb : Basic q (S k) (out S a k) := ⟨a k, (h.wrong k hk).1, rfl⟩
 refine ⟨hb, fun hn => ?_⟩
 rcases (h.basic hk _).1 hn with e | e
 ·exact h.enters hk (e ▸ hb)
 ·exact e.2 rfl
theorem Run.stays (h : Run q S a v K) {u i : Nat} : ∀ (d : Nat), i + d ≤ K → (∀ k, i ≤ k → k < i + d → u ≠ out S a k) → Basic q (S i) u → Basic q (S (i + d)) u
 | 0, _, _, hb => hb
 | d + 1, hk, hn, hb => by
  have h1 := h.stays d (by omega) (fun k h1 h2 => hn k h1 (by omega)) hb
  exact (h.basic (k := i + d) (by omega) u).2 (.inr ⟨h1, hn (i + d) (by omega) (by omega)⟩)
theorem Run.away (h : Run q S a v K) {u i : Nat} : ∀ (d : Nat), i + d ≤ K → (∀ k, i ≤ k → k < i + d → u ≠ v k) → ¬ Basic q (S i) u → ¬ Basic q (S (i + d)) u
 | 0, _, _, hb => hb
 | d + 1, hk, hn, hb => by
  have h1 := h.away d (by omega) (fun k h1 h2 => hn k h1 (by omega)) hb
  intro h2
  rcases (h.basic (k := i + d) (by omega) u).1 h2 with e | e
  ·exact hn (i + d) (by omega) (by omega) e
  ·exact h1 e.1
def Moves (S : Nat → St) (a v : Nat → Nat) (i j u : Nat) : Prop := ∃ k, i ≤ k ∧ k < j ∧ (u = v k ∨ u = out S a k)
theorem Run.comes (h : Run q S a v K) {i j : Nat} (hij : i ≤ j) (hj : j ≤ K) (same : ∀ u, Basic q (S i) u ↔ Basic q (S j) u) {u : Nat} (hm : Moves S a v i j u) :
  (∃ k, i ≤ k ∧ k < j ∧ u = v k) ∧ (∃ k, i ≤ k ∧ k < j ∧ u = out S a k) := by
 have enter_leave : (∃ k, i ≤ k ∧ k < j ∧ u = v k) → (∃ k, i ≤ k ∧ k < j ∧ u = out S a k) := by
  rintro ⟨k, h1, h2, rfl⟩
  refine Classical.byContradiction fun hn => ?_
  have hno : ∀ k', i ≤ k' → k' < j → v k ≠ out S a k' := fun k' a1 a2 e => hn ⟨k', a1, a2, e⟩
  have hb : Basic q (S (k + 1)) (v k) := (h.basic (by omega) _).2 (.inl rfl)
  have hbj := h.stays (u := v k) (i := k + 1) (j - (k + 1)) (by omega) (fun k' a1 a2 => hno k' (by omega) (by omega)) hb
  rw [show k + 1 + (j - (k + 1)) = j by omega] at hbj
  have hbi := (same _).2 hbj
  have hbk := h.stays (u := v k) (i := i) (k - i) (by omega) (fun k' a1 a2 => hno k' a1 (by omega)) hbi
  rw [show i + (k - i) = k by omega] at hbk
  exact h.enters (by omega) hbk
 have leave_enter : (∃ k, i ≤ k ∧ k < j ∧ u = out S a k) → (∃ k, i ≤ k ∧ k < j ∧ u = v k) := by
  rintro ⟨k, h1, h2, rfl⟩
  refine Classical.byContradiction fun hn => ?_
  have hno : ∀ k', i ≤ k' → k' < j → out S a k ≠ v k' := fun k' a1 a2 e => hn ⟨k', a1, a2, e⟩
  obtain ⟨hb, hb1⟩ := h.leaves (k := k) (by omega)
  have hbj := h.away (u := out S a k) (i := k + 1) (j - (k + 1)) (by omega) (fun k' a1 a2 => hno k' (by omega) (by omega)) hb1
  rw [show k + 1 + (j - (k + 1)) = j by omega] at hbj
  have hbi : ¬ Basic q (S i) (out S a k) := fun e => hbj ((same _).1 e)
  have hbk := h.away (u := out S a k) (i := i) (k - i) (by omega) (fun k' a1 a2 => hno k' a1 (by omega)) hbi
  rw [show i + (k - i) = k by omega] at hbk
  exact hbk hb
 obtain ⟨k, h1, h2, e | e⟩ := hm
 ·exact ⟨⟨k, h1, h2, e⟩, enter_leave ⟨k, h1, h2, e⟩⟩
 ·exact ⟨leave_enter ⟨k, h1, h2, e⟩, ⟨k, h1, h2, e⟩⟩
theorem Run.rest (h : Run q S a v K) {i j u : Nat} (hj : j ≤ K) (hn : ¬ Moves S a v i j u) {k l : Nat} (h1 : i ≤ k) (h2 : k ≤ j) (h3 : i ≤ l) (h4 : l ≤ j) (hb : ¬ Basic q (S k) u) : ¬ Basic q (S l) u := by
 have hv : ∀ k', i ≤ k' → k' < j → u ≠ v k' := fun k' a1 a2 e => hn ⟨k', a1, a2, .inl e⟩
 have ho : ∀ k', i ≤ k' → k' < j → u ≠ out S a k' := fun k' a1 a2 e => hn ⟨k', a1, a2, .inr e⟩
 by_cases hkl : k ≤ l
 ·have := h.away (u := u) (i := k) (l - k) (by omega) (fun k' a1 a2 => hv k' (by omega) (by omega)) hb
  rwa [show k + (l - k) = l by omega] at this
 ·intro hbl
  have := h.stays (u := u) (i := l) (k - l) (by omega) (fun k' a1 a2 => ho k' (by omega) (by omega)) hbl
  rw [show l + (k - l) = k by omega] at this
  exact hb this
theorem greatest {P : Nat → Prop} {B : Nat} (hP : ∃ u, P u) (hb : ∀ u, P u → u < B) : ∃ r, P r ∧ ∀ u, P u → u ≤ r := by
 induction B with
 | zero => obtain ⟨u, hu⟩ := hP; exact absurd (hb u hu) (by omega)
 | succ B ih =>
  by_cases hB : P B
  ·exact ⟨B, hB, fun u hu => by have := hb u hu; omega⟩
  ·refine ih (fun u hu => ?_)
   have := hb u hu
   by_cases e : u = B
   ·exact absurd (e ▸ hu) hB
   ·omega
theorem Run.bland (h : Run q S a v K) {i j : Nat} (hij : i < j) (hj : j ≤ K) (same : ∀ u, Basic q (S i) u ↔ Basic q (S j) u) : False := by
 have hslack : ∀ u, Moves S a v i j u → q.n ≤ u ∧ u < q.N := fun u hu => by
  obtain ⟨-, k, h1, h2, rfl⟩ := h.comes (by omega) hj same hu
  have hw := h.wrong k (by omega)
  exact ⟨hw.2.1, (h.inv k (by omega)).lt _ hw.1⟩
 obtain ⟨r, hr, hmax⟩ := greatest (P := Moves S a v i j) (B := q.N) ⟨v i, i, Nat.le_refl _, hij, .inl rfl⟩ (fun u hu => (hslack u hu).2)
 obtain ⟨⟨kT, t1, t2, eT⟩, ⟨kS, s1, s2, eS⟩⟩ := h.comes (by omega) hj same hr
 have wS := h.wrong kS (by omega)
 have iS := h.inv kS (by omega)
 have wT := h.wrong kT (by omega)
 have iT := h.inv kT (by omega)
 have hT := h.helps kT (by omega)
 have rn := (hslack r hr).1
 have eS' : (S kS).bas (a kS) = r := eS.symm
 have hlow : ∀ u, Moves S a v i j u → u ≠ r → (S kS).val u ≤ q.lim u := fun u hu hne => by
  have hs := hslack u hu
  by_cases hb : Basic q (S kS) u
  ·obtain ⟨x, hx, rfl⟩ := hb
   refine Classical.byContradiction fun hnle => ?_
   have hlt : q.lim ((S kS).bas x) < (S kS).val ((S kS).bas x) := by grind
   have hle := wS.2.2.2 x hx hs.1 hlt
   rw [eS'] at hle
   have := hmax _ hu
   omega
  ·rw [iS.high u hs.1 hs.2 hb]; grind
 have hup : q.lim r < (S kS).val r := by have := wS.2.2.1; rwa [eS'] at this
 have bT : ¬ Basic q (S kT) r := by rw [eT]; exact h.enters (by omega)
 have vT : (S kT).val r = q.lim r := iT.high r rn (hslack r hr).2 bT
 have hpos : 0 < (S kT).row (a kT) r := by
  have hg := hT.2.1
  rw [← eT] at hg
  rcases hg with hg | ⟨-, hg | hg⟩
  ·exact hg
  ·omega
  ·rw [vT] at hg; grind
 have hleast : ∀ u, u < r → ¬ Good q (S kT) (a kT) u := by have := hT.2.2; rwa [← eT] at this
 have dS := (iT.eqv _).2 iS.val (a kT) wT.1
 have dT := (iT.eqv _).2 iT.val (a kT) wT.1
 have hsum : 0 < sumN q.N (fun k => (S kT).row (a kT) k * (S kS).val k + (-1) * ((S kT).row (a kT) k * (S kT).val k)) := by
  refine sumN_pos (r := r) (fun k hk => ?_) (hslack r hr).2 ?_
  ·by_cases hb : Basic q (S kT) k
   ·obtain ⟨x, hx, rfl⟩ := hb
    rw [iT.zero _ x wT.1 hx]; grind
   ·by_cases hkn : k < q.n
    ·have hg := hleast k (by omega)
     have h0 : (S kT).row (a kT) k = 0 := by
      refine Classical.byContradiction fun hne => hg ?_
      by_cases hp : 0 < (S kT).row (a kT) k
      ·exact .inl hp
      ·exact .inr ⟨by grind, .inl hkn⟩
     rw [h0]; grind
    ·have hv := iT.high k (by omega) hk hb
     by_cases hkr : k = r
     ·subst hkr
      have := Rat.mul_nonneg (a := (S kT).row (a kT) k) (b := (S kS).val k - (S kT).val k) (by grind) (by rw [vT]; grind)
      grind
     ·by_cases hlt : k < r
      ·have hg := hleast k hlt
       have hneg : (S kT).row (a kT) k ≤ 0 := by
        refine Classical.byContradiction fun hne => hg (.inl (by grind))
       have hle : (S kS).val k ≤ q.lim k := by
        by_cases hm : Moves S a v i j k
        ·exact hlow k hm hkr
        ·have := h.rest hj hm (k := kT) (l := kS) t1 (by omega) s1 (by omega) hb
         rw [iS.high k (by omega) hk this]; grind
       have := Rat.mul_nonneg (a := -((S kT).row (a kT) k)) (b := (S kT).val k - (S kS).val k) (by grind) (by rw [hv]; grind)
       grind
      ·have hm : ¬ Moves S a v i j k := fun hm => by have := hmax k hm; omega
       have := h.rest hj hm (k := kT) (l := kS) t1 (by omega) s1 (by omega) hb
       rw [iS.high k (by omega) hk this, hv]; grind
  ·have := Rat.mul_pos (a := (S kT).row (a kT) r) (b := (S kS).val r - (S kT).val r) hpos (by rw [vT]; grind)
   grind
 rw [sumN_add, sumN_mul] at hsum
 rw [← dS, ← dT] at hsum
 have hl : Moves S a v i j (out S a kT) := ⟨kT, t1, t2, .inr rfl⟩
 have hne : out S a kT ≠ r := fun e => bT (e ▸ (h.leaves (k := kT) (by omega)).1)
 have h1 := hlow _ hl hne
 have h2 : q.lim (out S a kT) < (S kT).val (out S a kT) := wT.2.2.1
 have h3 : (S kT).bas (a kT) = out S a kT := rfl
 rw [h3] at hsum
 grind
end
end Go.Proofs.YtbpjnkeilhfajaaGreat.Sim
end

section
/- Plain: how many exchanges there are at most. -/
namespace Go.Proofs.YtbpjnkeilhfajaaGreat.Sim
set_option linter.unusedVariables false
set_option linter.unusedSimpArgs false
theorem nodup_sub {α : Type} [BEq α] [LawfulBEq α] : ∀ (l l' : List α), l.Nodup → (∀ x, x ∈ l → x ∈ l') → l.length ≤ l'.length
 | [], l', _, _ => by simp
 | a :: l, l', h, hs => by
  rw [List.nodup_cons] at h
  have ha := hs a (by simp)
  have h1 := nodup_sub l (l'.erase a) h.2 (fun x hx => (List.mem_erase_of_ne (fun e => h.1 (by rw [← e]; exact hx))).2 (hs x (by simp [hx])))
  have h2 := List.length_erase_of_mem ha
  have h3 := List.length_pos_of_mem ha
  rw [List.length_cons]; omega
theorem nodup_map_range {α : Type} (f : Nat → α) : ∀ n, (∀ i j, i < n → j < n → f i = f j → i = j) → ((List.range n).map f).Nodup
 | 0, _ => by simp
 | n + 1, h => by
  rw [List.range_succ, List.map_append, List.nodup_append]
  refine ⟨nodup_map_range f n (fun i j hi hj => h i j (by omega) (by omega)), by simp, fun x hx y hy e => ?_⟩
  obtain ⟨i, hi, rfl⟩ := List.mem_map.1 hx
  rw [List.mem_range] at hi
  simp at hy
  have := h i n (by omega) (by omega) (by rw [e, hy])
  omega
def combos : Nat → Nat → List (List Nat)
 | _, 0 => [[]]
 | 0, _ + 1 => []
 | N + 1, k + 1 => combos N (k + 1) ++ (combos N k).map (fun l => l ++ [N])
def cnt : Nat → Nat → Nat
 | _, 0 => 1
 | 0, _ + 1 => 0
 | N + 1, k + 1 => cnt N (k + 1) + cnt N k
theorem combos_len : ∀ N k, (combos N k).length = cnt N k
 | N, 0 => by cases N <;> rfl
 | 0, k + 1 => rfl
 | N + 1, k + 1 => by rw [combos, cnt, List.length_append, List.length_map, combos_len N (k + 1), combos_len N k]
theorem cnt_zero (N : Nat) : cnt N 0 = 1 := by cases N <;> rfl
theorem cnt_step (N k : Nat) : cnt N k ≤ cnt (N + 1) k := by
 cases k with
 | zero => rw [cnt_zero, cnt_zero]; omega
 | succ k => rw [cnt]; omega
theorem cnt_mono {N M : Nat} (k : Nat) (h : N ≤ M) : cnt N k ≤ cnt M k := by
 induction h with
 | refl => exact Nat.le_refl _
 | step _ ih => exact Nat.le_trans ih (cnt_step _ k)
theorem filter_combos (P : Nat → Bool) : ∀ N, (List.range N).filter P ∈ combos N ((List.range N).filter P).length
 | 0 => by simp [combos]
 | N + 1 => by
  have ih := filter_combos P N
  rw [List.range_succ, List.filter_append]
  by_cases h : P N = true
  ·rw [List.filter_cons_of_pos h, List.filter_nil, List.length_append, List.length_singleton, combos]
   exact List.mem_append.2 (.inr (List.mem_map.2 ⟨_, ih, rfl⟩))
  ·rw [List.filter_cons_of_neg h, List.filter_nil, List.append_nil]
   cases hl : ((List.range N).filter P).length with
   | zero => rw [List.length_eq_zero_iff.1 hl]; simp [combos]
   | succ k => rw [hl] at ih; rw [combos]; exact List.mem_append.2 (.inl ih)
def isB (q : Qu) (s : St) (v : Nat) : Bool := (List.range q.m).any (fun i => s.bas i == v)
theorem isB_iff {q : Qu} {s : St} {v : Nat} : isB q s v = true ↔ Basic q s v := by
 unfold isB Basic
 simp [List.any_eq_true, List.mem_range]
def nb (q : Qu) (s : St) : List Nat := (List.range q.N).filter (fun v => !isB q s v)
theorem mem_nb {q : Qu} {s : St} {v : Nat} : v ∈ nb q s ↔ v < q.N ∧ ¬ Basic q s v := by
 unfold nb
 rw [List.mem_filter, List.mem_range, ← isB_iff]
 simp
theorem filter_both (P : Nat → Bool) : ∀ l : List Nat, (l.filter P).length + (l.filter fun v => !P v).length = l.length
 | [] => rfl
 | a :: l => by
  have := filter_both P l
  cases h : P a <;> simp [List.filter_cons, h] <;> omega
theorem nb_len {q : Qu} {s : St} (h : Inv q s) : (nb q s).length = q.n := by
 have h1 := filter_both (isB q s) (List.range q.N)
 rw [List.length_range] at h1
 have nd : ((List.range q.m).map s.bas).Nodup := nodup_map_range s.bas q.m h.inj
 have a1 := nodup_sub ((List.range q.m).map s.bas) ((List.range q.N).filter (isB q s)) nd (fun x hx => by
  obtain ⟨i, hi, rfl⟩ := List.mem_map.1 hx
  rw [List.mem_range] at hi
  exact List.mem_filter.2 ⟨List.mem_range.2 (h.lt i hi), isB_iff.2 ⟨i, hi, rfl⟩⟩)
 have a2 := nodup_sub ((List.range q.N).filter (isB q s)) ((List.range q.m).map s.bas) (List.nodup_range.filter _) (fun x hx => by
  obtain ⟨-, hb⟩ := List.mem_filter.1 hx
  obtain ⟨i, hi, rfl⟩ := isB_iff.1 hb
  exact List.mem_map.2 ⟨i, List.mem_range.2 hi, rfl⟩)
 rw [List.length_map, List.length_range] at a1 a2
 unfold nb
 unfold Qu.N at *
 omega
theorem Run.short {q : Qu} {S : Nat → St} {a v : Nat → Nat} {K : Nat} (h : Run q S a v K) : K < cnt q.N q.n := by
 have key : ∀ i j, i < j → j < K + 1 → nb q (S i) = nb q (S j) → False := by
  intro i j hij hj e
  refine h.bland (i := i) (j := j) hij (by omega) (fun u => ?_)
  have ii := h.inv i (by omega)
  have ij := h.inv j (by omega)
  by_cases hu : u < q.N
  ·have hm : u ∈ nb q (S i) ↔ u ∈ nb q (S j) := by rw [e]
   rw [mem_nb, mem_nb] at hm
   constructor
   ·intro hb; refine Classical.byContradiction fun hn => ?_; exact (hm.2 ⟨hu, hn⟩).2 hb
   ·intro hb; refine Classical.byContradiction fun hn => ?_; exact (hm.1 ⟨hu, hn⟩).2 hb
  ·constructor
   ·rintro ⟨x, hx, rfl⟩; exact absurd (ii.lt x hx) hu
   ·rintro ⟨x, hx, rfl⟩; exact absurd (ij.lt x hx) hu
 have nd : ((List.range (K + 1)).map (fun k => nb q (S k))).Nodup := by
  refine nodup_map_range _ _ (fun i j hi hj e => ?_)
  by_cases hij : i < j
  ·exact (key i j hij (by omega) e).elim
  ·by_cases hji : j < i
   ·exact (key j i hji (by omega) e.symm).elim
   ·omega
 have hs := nodup_sub _ (combos q.N q.n) nd (fun x hx => by
  obtain ⟨k, hk, rfl⟩ := List.mem_map.1 hx
  rw [List.mem_range] at hk
  have := filter_combos (fun v => !isB q (S k) v) q.N
  have hl := nb_len (h.inv k (by omega))
  unfold nb at hl ⊢
  rw [hl] at this
  exact this)
 rw [List.length_map, List.length_range, combos_len] at hs
 omega
theorem cnt_whole : cnt 30 3 ≤ 10000 ∧ cnt 30 2 ≤ 10000 ∧ cnt 30 1 ≤ 10000 ∧ cnt 30 0 ≤ 10000 := by decide +kernel
end Go.Proofs.YtbpjnkeilhfajaaGreat.Sim
end
