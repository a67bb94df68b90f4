/- Plain: a simplex over the rationals: its states, one exchange, and what stays. -/
namespace Go.Proofs.Ytdkbnbebioflaaa.Sim
set_option linter.unusedVariables false
set_option linter.unusedSimpArgs false

/-- A sum of the first ones. -/
def sumN : Nat → (Nat → Rat) → Rat
  | 0, _ => 0
  | n + 1, f => sumN n f + f n
theorem sumN_congr {f g : Nat → Rat} : ∀ {n : Nat}, (∀ k, k < n → f k = g k) → sumN n f = sumN n g
  | 0, _ => rfl
  | n + 1, h => by rw [sumN, sumN, sumN_congr (fun k hk => h k (by omega)), h n (by omega)]
theorem sumN_zero {f : Nat → Rat} : ∀ {n : Nat}, (∀ k, k < n → f k = 0) → sumN n f = 0
  | 0, _ => rfl
  | n + 1, h => by rw [sumN, sumN_zero (fun k hk => h k (by omega)), h n (by omega)]; grind
theorem sumN_add (f g : Nat → Rat) : ∀ n, sumN n (fun k => f k + g k) = sumN n f + sumN n g
  | 0 => by rw [sumN, sumN, sumN]; grind
  | n + 1 => by rw [sumN, sumN, sumN, sumN_add f g n]; grind
theorem sumN_mul (c : Rat) (f : Nat → Rat) : ∀ n, sumN n (fun k => c * f k) = c * sumN n f
  | 0 => by rw [sumN, sumN]; grind
  | n + 1 => by rw [sumN, sumN, sumN_mul c f n]; grind
/-- One of them alone. -/
theorem sumN_one (v : Nat) (g : Nat → Rat) : ∀ n, sumN n (fun k => if k = v then g k else 0) = if v < n then g v else 0
  | 0 => by rw [sumN, if_neg (by omega)]
  | n + 1 => by
    rw [sumN, sumN_one v g n]
    by_cases h : n = v
    · subst h; rw [if_neg (by omega), if_pos rfl, if_pos (by omega)]; grind
    · rw [if_neg h]
      by_cases h2 : v < n
      · rw [if_pos h2, if_pos (by omega)]; grind
      · rw [if_neg h2, if_neg (by omega)]; grind
theorem sumN_split (f : Nat → Rat) (a : Nat) : ∀ b, sumN (a + b) f = sumN a f + sumN b (fun k => f (a + k))
  | 0 => by rw [sumN]; grind
  | b + 1 => by rw [← Nat.add_assoc, sumN, sumN, sumN_split f a b]; grind

/-- A state: what is basic in each row, the rows, and what all unknowns are. -/
structure St where
  bas : Nat → Nat
  row : Nat → Nat → Rat
  val : Nat → Rat

/-- What is asked: n unknowns, m rows, their numbers, their limits (by unknown: n is the first row's). -/
structure Qu where
  n : Nat
  m : Nat
  C : Nat → Nat → Rat
  lim : Nat → Rat

def Qu.N (q : Qu) : Nat := q.n + q.m
/-- The rows' own equations. -/
def Sub (q : Qu) (p : Nat → Rat) : Prop := ∀ j, j < q.m → p (q.n + j) = sumN q.n (fun k => q.C j k * p k)
/-- What a state says. -/
def Dict (q : Qu) (s : St) (p : Nat → Rat) : Prop := ∀ i, i < q.m → p (s.bas i) = sumN q.N (fun k => s.row i k * p k)
def Basic (q : Qu) (s : St) (v : Nat) : Prop := ∃ i, i < q.m ∧ s.bas i = v
structure Inv (q : Qu) (s : St) : Prop where
  inj : ∀ i j, i < q.m → j < q.m → s.bas i = s.bas j → i = j
  lt : ∀ i, i < q.m → s.bas i < q.N
  zero : ∀ i j, i < q.m → j < q.m → s.row i (s.bas j) = 0
  eqv : ∀ p, Dict q s p ↔ Sub q p
  val : Sub q s.val
  low : ∀ v, v < q.n → ¬ Basic q s v → s.val v = 0
  high : ∀ v, q.n ≤ v → v < q.N → ¬ Basic q s v → s.val v = q.lim v

/-- The beginning. -/
def start (q : Qu) : St := ⟨fun i => q.n + i, fun i k => if k < q.n then q.C i k else 0, fun _ => 0⟩
theorem start_sum (q : Qu) (i : Nat) (p : Nat → Rat) : sumN q.N (fun k => (start q).row i k * p k) = sumN q.n (fun k => q.C i k * p k) := by
  unfold Qu.N
  rw [sumN_split]
  have h1 : sumN q.n (fun k => (start q).row i k * p k) = sumN q.n (fun k => q.C i k * p k) := sumN_congr fun k hk => by simp only [start, if_pos hk]
  have h2 : sumN q.m (fun k => (start q).row i (q.n + k) * p (q.n + k)) = 0 := sumN_zero fun k hk => by simp only [start]; rw [if_neg (by omega)]; grind
  rw [h1, h2]; grind
theorem start_inv (q : Qu) : Inv q (start q) where
  inj i j _ _ h := by simp only [start] at h; omega
  lt i h := by simp only [start, Qu.N]; omega
  zero i j _ _ := by simp only [start]; rw [if_neg (by omega)]
  eqv p := by
    constructor
    · intro h j hj
      have := h j hj
      rw [start_sum] at this
      exact this
    · intro h j hj
      rw [start_sum]
      exact h j hj
  val j hj := by
    simp only [start]
    rw [sumN_zero]
    intro k hk; grind
  low v h _ := rfl
  high v h1 h2 h3 := absurd ⟨v - q.n, by simp only [Qu.N] at h2; omega, by simp only [start]; omega⟩ h3

/-- What the unknown that comes in is of the others. -/
def next (s : St) (at_ v : Nat) : Nat → Rat := fun k => if k = v then 0 else if k = s.bas at_ then 1 / s.row at_ v else -(s.row at_ k / s.row at_ v)
/-- An exchange. -/
def step (q : Qu) (s : St) (at_ v : Nat) : St where
  bas i := if i = at_ then v else s.bas i
  row i k := if i = at_ then next s at_ v k else (if k = v then 0 else s.row i k) + s.row i v * next s at_ v k
  val u := s.val u + (q.lim (s.bas at_) - s.val (s.bas at_)) / s.row at_ v * (if u = v then 1 else 0) + (q.lim (s.bas at_) - s.val (s.bas at_)) / s.row at_ v * dir q s v u
where
  /-- by how much a basic unknown goes with v -/
  dir (q : Qu) (s : St) (v u : Nat) : Rat := sumN q.m (fun i => if s.bas i = u then s.row i v else 0)

theorem dir_bas {q : Qu} {s : St} (h : Inv q s) (v : Nat) {i : Nat} (hi : i < q.m) : step.dir q s v (s.bas i) = s.row i v := by
  unfold step.dir
  rw [sumN_congr (g := fun k => if k = i then s.row k v else 0)]
  · rw [sumN_one i (fun k => s.row k v), if_pos hi]
  · intro k hk
    by_cases e : k = i
    · rw [if_pos (by rw [e]), if_pos e]
    · rw [if_neg (fun e' => e (h.inj k i hk hi e')), if_neg e]
theorem dir_non {q : Qu} {s : St} {v u : Nat} (hu : ¬ Basic q s u) : step.dir q s v u = 0 := by
  unfold step.dir
  exact sumN_zero fun k hk => if_neg (fun e => hu ⟨k, hk, e⟩)

theorem next_sum {q : Qu} {s : St} (h : Inv q s) {at_ v : Nat} (ha : at_ < q.m) (hv : v < q.N) (hc : s.row at_ v ≠ 0) (p : Nat → Rat) :
    sumN q.N (fun k => next s at_ v k * p k) = (p (s.bas at_) - sumN q.N (fun k => s.row at_ k * p k)) / s.row at_ v + p v := by
  have hw : s.bas at_ < q.N := h.lt at_ ha
  have hz : s.row at_ (s.bas at_) = 0 := h.zero at_ at_ ha ha
  have hne : v ≠ s.bas at_ := fun e => hc (by rw [e]; exact hz)
  generalize hcc : s.row at_ v = c at *
  have e : ∀ k, k < q.N → next s at_ v k * p k = ((1 / c) * (if k = s.bas at_ then p k else 0) + (-(1 / c)) * (s.row at_ k * p k)) + (if k = v then p k else 0) := by
    intro k hk
    unfold next
    rw [hcc]
    by_cases h1 : k = v
    · subst h1
      rw [if_pos rfl, if_pos rfl, if_neg hne, hcc]; grind
    · rw [if_neg h1, if_neg h1]
      by_cases h2 : k = s.bas at_
      · rw [if_pos h2, if_pos h2, h2, hz]; grind
      · rw [if_neg h2, if_neg h2]; grind
  rw [sumN_congr e, sumN_add, sumN_add, sumN_mul, sumN_mul, sumN_one, sumN_one, if_pos hw, if_pos hv]
  grind
theorem row_sum {q : Qu} {s : St} (h : Inv q s) {at_ v : Nat} (ha : at_ < q.m) (hv : v < q.N) (hc : s.row at_ v ≠ 0) (p : Nat → Rat) {i : Nat} (hi : i ≠ at_) :
    sumN q.N (fun k => (step q s at_ v).row i k * p k) = sumN q.N (fun k => s.row i k * p k) + s.row i v * ((p (s.bas at_) - sumN q.N (fun k => s.row at_ k * p k)) / s.row at_ v) := by
  have e : ∀ k, k < q.N → (step q s at_ v).row i k * p k = (s.row i k * p k + (-(s.row i v)) * (if k = v then p k else 0)) + s.row i v * (next s at_ v k * p k) := by
    intro k hk
    simp only [step, if_neg hi]
    by_cases h1 : k = v
    · subst h1; rw [if_pos rfl, if_pos rfl]; grind
    · rw [if_neg h1, if_neg h1]; grind
  rw [sumN_congr e, sumN_add, sumN_add, sumN_mul, sumN_mul, sumN_one, if_pos hv, next_sum h ha hv hc]
  grind

theorem not_basic {q : Qu} {s : St} (h : Inv q s) {at_ v : Nat} (ha : at_ < q.m) (hc : s.row at_ v ≠ 0) : ¬ Basic q s v := by
  rintro ⟨i, hi, rfl⟩
  exact hc (h.zero at_ i ha hi)
theorem step_dict {q : Qu} {s : St} (h : Inv q s) {at_ v : Nat} (ha : at_ < q.m) (hv : v < q.N) (hc : s.row at_ v ≠ 0) (p : Nat → Rat) : Dict q (step q s at_ v) p ↔ Dict q s p := by
  constructor
  · intro hd
    have h1 := hd at_ ha
    simp only [step, if_true] at h1
    rw [next_sum h ha hv hc] at h1
    have h2 : p (s.bas at_) = sumN q.N (fun k => s.row at_ k * p k) := by grind
    intro i hi
    by_cases e : i = at_
    · rw [e]; exact h2
    · have h3 := hd i hi
      rw [row_sum h ha hv hc p e] at h3
      simp only [step, if_neg e] at h3
      grind
  · intro hd i hi
    have h1 := hd at_ ha
    by_cases e : i = at_
    · subst e
      simp only [step, if_true]
      rw [next_sum h ha hv hc, ← h1]; grind
    · rw [row_sum h ha hv hc p e, ← h1, ← hd i hi]
      simp only [step, if_neg e]
      grind
theorem step_basic {q : Qu} {s : St} (h : Inv q s) {at_ v : Nat} (ha : at_ < q.m) (hc : s.row at_ v ≠ 0) (u : Nat) : Basic q (step q s at_ v) u ↔ (u = v ∨ (Basic q s u ∧ u ≠ s.bas at_)) := by
  constructor
  · rintro ⟨i, hi, rfl⟩
    simp only [step]
    by_cases e : i = at_
    · rw [if_pos e]; exact .inl rfl
    · rw [if_neg e]; exact .inr ⟨⟨i, hi, rfl⟩, fun e' => e (h.inj i at_ hi ha e')⟩
  · rintro (rfl | ⟨⟨i, hi, rfl⟩, hne⟩)
    · exact ⟨at_, ha, by simp [step]⟩
    · exact ⟨i, hi, by simp only [step]; rw [if_neg (fun e => hne (by rw [e]))]⟩
/-- What an exchange makes of what the unknowns are. -/
theorem step_val {q : Qu} {s : St} (h : Inv q s) {at_ v : Nat} (ha : at_ < q.m) (hc : s.row at_ v ≠ 0) :
    (step q s at_ v).val (s.bas at_) = q.lim (s.bas at_) ∧ (step q s at_ v).val v = s.val v + (q.lim (s.bas at_) - s.val (s.bas at_)) / s.row at_ v ∧
    (∀ i, i < q.m → i ≠ at_ → (step q s at_ v).val (s.bas i) = s.val (s.bas i) + s.row i v * ((q.lim (s.bas at_) - s.val (s.bas at_)) / s.row at_ v)) ∧
    (∀ u, u ≠ v → ¬ Basic q s u → (step q s at_ v).val u = s.val u) := by
  have hn := not_basic h ha hc
  have hne : ∀ i, i < q.m → s.bas i ≠ v := fun i hi e => hn ⟨i, hi, e⟩
  refine ⟨?_, ?_, ?_, ?_⟩
  · simp only [step]; rw [if_neg (hne at_ ha), dir_bas h v ha]; grind
  · simp only [step, if_true]; rw [dir_non hn]; grind
  · intro i hi hia; simp only [step]; rw [if_neg (hne i hi), dir_bas h v hi]; grind
  · intro u hu hb; simp only [step]; rw [if_neg hu, dir_non hb]; grind
theorem step_inv {q : Qu} {s : St} (h : Inv q s) {at_ v : Nat} (ha : at_ < q.m) (hv : v < q.N) (hc : s.row at_ v ≠ 0) (hw : q.n ≤ s.bas at_) : Inv q (step q s at_ v) := by
  have hn := not_basic h ha hc
  have hne : ∀ i, i < q.m → s.bas i ≠ v := fun i hi e => hn ⟨i, hi, e⟩
  obtain ⟨v1, v2, v3, v4⟩ := step_val h ha hc
  refine ⟨?_, ?_, ?_, fun p => (step_dict h ha hv hc p).trans (h.eqv p), ?_, ?_, ?_⟩
  · intro i j hi hj e
    simp only [step] at e
    by_cases e1 : i = at_ <;> by_cases e2 : j = at_
    · omega
    · rw [if_pos e1, if_neg e2] at e; exact absurd e.symm (hne j hj)
    · rw [if_neg e1, if_pos e2] at e; exact absurd e (hne i hi)
    · rw [if_neg e1, if_neg e2] at e; exact h.inj i j hi hj e
  · intro i hi
    simp only [step]
    by_cases e1 : i = at_
    · rw [if_pos e1]; exact hv
    · rw [if_neg e1]; exact h.lt i hi
  · intro i j hi hj
    have nz : ∀ j, j < q.m → j ≠ at_ → next s at_ v (s.bas j) = 0 := fun j hj hja => by
      unfold next
      rw [if_neg (hne j hj), if_neg (fun e => hja (h.inj j at_ hj ha e)), h.zero at_ j ha hj]; grind
    have nv : next s at_ v v = 0 := by unfold next; rw [if_pos rfl]
    simp only [step]
    by_cases e2 : j = at_
    · rw [if_pos e2]
      by_cases e1 : i = at_
      · rw [if_pos e1]; exact nv
      · rw [if_neg e1, if_pos rfl, nv]; grind
    · rw [if_neg e2]
      by_cases e1 : i = at_
      · rw [if_pos e1]; exact nz j hj e2
      · rw [if_neg e1, if_neg (hne j hj), nz j hj e2, h.zero i j hi hj]; grind
  · rw [← h.eqv]
    have hd : Dict q s s.val := (h.eqv _).2 h.val
    intro i hi
    have key : sumN q.N (fun k => s.row i k * (step q s at_ v).val k) = sumN q.N (fun k => s.row i k * s.val k) + s.row i v * ((q.lim (s.bas at_) - s.val (s.bas at_)) / s.row at_ v) := by
      have e : ∀ k, k < q.N → s.row i k * (step q s at_ v).val k = s.row i k * s.val k + (if k = v then s.row i k * ((q.lim (s.bas at_) - s.val (s.bas at_)) / s.row at_ v) else 0) := by
        intro k hk
        by_cases hb : Basic q s k
        · obtain ⟨j, hj, rfl⟩ := hb
          rw [h.zero i j hi hj, if_neg (hne j hj)]; grind
        · by_cases hkv : k = v
          · subst hkv; rw [v2, if_pos rfl]; grind
          · rw [v4 k hkv hb, if_neg hkv]; grind
      rw [sumN_congr e, sumN_add, sumN_one v (fun k => s.row i k * ((q.lim (s.bas at_) - s.val (s.bas at_)) / s.row at_ v)), if_pos hv]
    rw [key, ← hd i hi]
    by_cases e : i = at_
    · subst e; rw [v1]; grind
    · rw [v3 i hi e]
  · intro u hu hb
    rw [step_basic h ha hc] at hb
    by_cases hw2 : u = s.bas at_
    · omega
    · rw [v4 u (fun e => hb (.inl e)) (fun k => hb (.inr ⟨k, hw2⟩))]
      exact h.low u hu (fun k => hb (.inr ⟨k, hw2⟩))
  · intro u hu1 hu2 hb
    rw [step_basic h ha hc] at hb
    by_cases hw2 : u = s.bas at_
    · rw [hw2]; exact v1
    · rw [v4 u (fun e => hb (.inl e)) (fun k => hb (.inr ⟨k, hw2⟩))]
      exact h.high u hu1 hu2 (fun k => hb (.inr ⟨k, hw2⟩))
end Go.Proofs.Ytdkbnbebioflaaa.Sim
