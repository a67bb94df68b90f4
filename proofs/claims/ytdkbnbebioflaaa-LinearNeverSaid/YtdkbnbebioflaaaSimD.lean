import Derived.Test.YtdkbnbebioflaaaNumOverLaw
section
/- Plain: how many exchanges there are at most. -/
namespace Go.Proofs.Ytdkbnbebioflaaa.Sim
set_option linter.unusedVariables false
set_option linter.unusedSimpArgs false

theorem nodup_sub {α : Type} [BEq α] [LawfulBEq α] : ∀ (l l' : List α), l.Nodup → (∀ x, x ∈ l → x ∈ l') → l.length ≤ l'.length
  | [], l', _, _ => by simp
  | a :: l, l', h, hs => by
    rw [List.nodup_cons] at h
    have ha := hs a (by simp)
    have h1 := nodup_sub l (l'.erase a) h.2 (fun x hx => (List.mem_erase_of_ne (fun e => h.1 (by rw [← e]; exact hx))).2 (hs x (by simp [hx])))
    have h2 := List.length_erase_of_mem ha
    have h3 := List.length_pos_of_mem ha
    rw [List.length_cons]; omega

theorem nodup_map_range {α : Type} (f : Nat → α) : ∀ n, (∀ i j, i < n → j < n → f i = f j → i = j) → ((List.range n).map f).Nodup
  | 0, _ => by simp
  | n + 1, h => by
    rw [List.range_succ, List.map_append, List.nodup_append]
    refine ⟨nodup_map_range f n (fun i j hi hj => h i j (by omega) (by omega)), by simp, fun x hx y hy e => ?_⟩
    obtain ⟨i, hi, rfl⟩ := List.mem_map.1 hx
    rw [List.mem_range] at hi
    simp at hy
    have := h i n (by omega) (by omega) (by rw [e, hy])
    omega

/-- All choices of k out of the first N. -/
def combos : Nat → Nat → List (List Nat)
  | _, 0 => [[]]
  | 0, _ + 1 => []
  | N + 1, k + 1 => combos N (k + 1) ++ (combos N k).map (fun l => l ++ [N])
def cnt : Nat → Nat → Nat
  | _, 0 => 1
  | 0, _ + 1 => 0
  | N + 1, k + 1 => cnt N (k + 1) + cnt N k
theorem combos_len : ∀ N k, (combos N k).length = cnt N k
  | N, 0 => by cases N <;> rfl
  | 0, k + 1 => rfl
  | N + 1, k + 1 => by rw [combos, cnt, List.length_append, List.length_map, combos_len N (k + 1), combos_len N k]
theorem filter_combos (P : Nat → Bool) : ∀ N, (List.range N).filter P ∈ combos N ((List.range N).filter P).length
  | 0 => by simp [combos]
  | N + 1 => by
    have ih := filter_combos P N
    rw [List.range_succ, List.filter_append]
    by_cases h : P N = true
    · rw [List.filter_cons_of_pos h, List.filter_nil, List.length_append, List.length_singleton, combos]
      exact List.mem_append.2 (.inr (List.mem_map.2 ⟨_, ih, rfl⟩))
    · rw [List.filter_cons_of_neg h, List.filter_nil, List.append_nil]
      cases hl : ((List.range N).filter P).length with
      | zero => rw [List.length_eq_zero_iff.1 hl]; simp [combos]
      | succ k => rw [hl] at ih; rw [combos]; exact List.mem_append.2 (.inl ih)

def isB (q : Qu) (s : St) (v : Nat) : Bool := (List.range q.m).any (fun i => s.bas i == v)
theorem isB_iff {q : Qu} {s : St} {v : Nat} : isB q s v = true ↔ Basic q s v := by
  unfold isB Basic
  simp [List.any_eq_true, List.mem_range]
/-- Who is not basic. -/
def nb (q : Qu) (s : St) : List Nat := (List.range q.N).filter (fun v => !isB q s v)
theorem mem_nb {q : Qu} {s : St} {v : Nat} : v ∈ nb q s ↔ v < q.N ∧ ¬ Basic q s v := by
  unfold nb
  rw [List.mem_filter, List.mem_range, ← isB_iff]
  simp
theorem filter_both (P : Nat → Bool) : ∀ l : List Nat, (l.filter P).length + (l.filter fun v => !P v).length = l.length
  | [] => rfl
  | a :: l => by
    have := filter_both P l
    cases h : P a <;> simp [List.filter_cons, h] <;> omega
theorem nb_len {q : Qu} {s : St} (h : Inv q s) : (nb q s).length = q.n := by
  have h1 := filter_both (isB q s) (List.range q.N)
  rw [List.length_range] at h1
  have nd : ((List.range q.m).map s.bas).Nodup := nodup_map_range s.bas q.m h.inj
  have a1 := nodup_sub ((List.range q.m).map s.bas) ((List.range q.N).filter (isB q s)) nd (fun x hx => by
    obtain ⟨i, hi, rfl⟩ := List.mem_map.1 hx
    rw [List.mem_range] at hi
    exact List.mem_filter.2 ⟨List.mem_range.2 (h.lt i hi), isB_iff.2 ⟨i, hi, rfl⟩⟩)
  have a2 := nodup_sub ((List.range q.N).filter (isB q s)) ((List.range q.m).map s.bas) (List.nodup_range.filter _) (fun x hx => by
    obtain ⟨-, hb⟩ := List.mem_filter.1 hx
    obtain ⟨i, hi, rfl⟩ := isB_iff.1 hb
    exact List.mem_map.2 ⟨i, List.mem_range.2 hi, rfl⟩)
  rw [List.length_map, List.length_range] at a1 a2
  unfold nb
  unfold Qu.N at *
  omega

/-- There are fewer exchanges than bases. -/
theorem Run.short {q : Qu} {S : Nat → St} {a v : Nat → Nat} {K : Nat} (h : Run q S a v K) : K < cnt q.N q.n := by
  have key : ∀ i j, i < j → j < K + 1 → nb q (S i) = nb q (S j) → False := by
    intro i j hij hj e
    refine h.bland (i := i) (j := j) hij (by omega) (fun u => ?_)
    have ii := h.inv i (by omega)
    have ij := h.inv j (by omega)
    by_cases hu : u < q.N
    · have hm : u ∈ nb q (S i) ↔ u ∈ nb q (S j) := by rw [e]
      rw [mem_nb, mem_nb] at hm
      constructor
      · intro hb; refine Classical.byContradiction fun hn => ?_; exact (hm.2 ⟨hu, hn⟩).2 hb
      · intro hb; refine Classical.byContradiction fun hn => ?_; exact (hm.1 ⟨hu, hn⟩).2 hb
    · constructor
      · rintro ⟨x, hx, rfl⟩; exact absurd (ii.lt x hx) hu
      · rintro ⟨x, hx, rfl⟩; exact absurd (ij.lt x hx) hu
  have nd : ((List.range (K + 1)).map (fun k => nb q (S k))).Nodup := by
    refine nodup_map_range _ _ (fun i j hi hj e => ?_)
    by_cases hij : i < j
    · exact (key i j hij (by omega) e).elim
    · by_cases hji : j < i
      · exact (key j i hji (by omega) e.symm).elim
      · omega
  have hs := nodup_sub _ (combos q.N q.n) nd (fun x hx => by
    obtain ⟨k, hk, rfl⟩ := List.mem_map.1 hx
    rw [List.mem_range] at hk
    have := filter_combos (fun v => !isB q (S k) v) q.N
    have hl := nb_len (h.inv k (by omega))
    unfold nb at hl ⊢
    rw [hl] at this
    exact this)
  rw [List.length_map, List.length_range, combos_len] at hs
  omega
end Go.Proofs.Ytdkbnbebioflaaa.Sim
end

section
/- Plain: how large the numbers of the simplex become (Cramer). -/
namespace Go.Proofs.Ytdkbnbebioflaaa.Sim
set_option linter.unusedVariables false
set_option linter.unusedSimpArgs false

theorem abs_mul_le {x y : Int} {a b : Nat} (hx : x.natAbs ≤ a) (hy : y.natAbs ≤ b) : (x * y).natAbs ≤ a * b := by
  rw [Int.natAbs_mul]; exact Nat.mul_le_mul hx hy
theorem abs_add_le {x y : Int} {a b : Nat} (hx : x.natAbs ≤ a) (hy : y.natAbs ≤ b) : (x + y).natAbs ≤ a + b := by omega
/-- Rows of small whole numbers, of at most three unknowns. -/
structure Small (q : Qu) (c : Nat → Nat → Int) : Prop where
  three : q.n ≤ 3
  is : ∀ j k, q.C j k = (c j k : Rat)
  small : ∀ j k, (c j k).natAbs ≤ 9

/-- A number times a determinant is a small whole number. -/
def Frac (D : Int) (B : Nat) (r : Rat) : Prop := ∃ E : Int, r * D = (E : Rat) ∧ E.natAbs ≤ B
theorem Frac.int (D : Int) {B b : Nat} (hD : D.natAbs ≤ B) {x : Int} (hx : x.natAbs ≤ b) : Frac D (b * B) (x : Rat) :=
  ⟨x * D, by rw [Rat.intCast_mul], abs_mul_le hx hD⟩
theorem Frac.add {D : Int} {B C : Nat} {x y : Rat} (hx : Frac D B x) (hy : Frac D C y) : Frac D (B + C) (x + y) := by
  obtain ⟨E, e1, e2⟩ := hx
  obtain ⟨F, f1, f2⟩ := hy
  exact ⟨E + F, by rw [Rat.intCast_add, ← e1, ← f1]; grind, abs_add_le e2 f2⟩
theorem Frac.mono {D : Int} {B C : Nat} {x : Rat} (hx : Frac D B x) (h : B ≤ C) : Frac D C x := by
  obtain ⟨E, e1, e2⟩ := hx
  exact ⟨E, e1, Nat.le_trans e2 h⟩
/-- Numerator and denominator. -/
theorem Frac.parts {D : Int} (hD : D ≠ 0) {B : Nat} {x : Rat} (hx : Frac D B x) : x.den ∣ D.natAbs ∧ x.num.natAbs ≤ B := by
  obtain ⟨E, e1, e2⟩ := hx
  have hd : ((x.den : Int) : Rat) ≠ 0 := by
    intro e
    have : ((x.den : Int) : Rat) = ((0 : Int) : Rat) := e.trans rfl
    have := Rat.intCast_inj.1 this
    exact x.den_nz (by omega)
  have hx : x = ((x.num : Int) : Rat) / ((x.den : Int) : Rat) := by
    rw [← Rat.divInt_eq_div]; exact (Rat.num_divInt_den x).symm
  have key : x.num * D = E * (x.den : Int) := by
    apply Rat.intCast_inj.1
    rw [Rat.intCast_mul, Rat.intCast_mul, ← e1]
    generalize ((x.den : Int) : Rat) = d at *
    generalize ((x.num : Int) : Rat) = n at *
    rw [hx]; grind
  have key2 : x.num.natAbs * D.natAbs = E.natAbs * x.den := by
    have := congrArg Int.natAbs key
    rwa [Int.natAbs_mul, Int.natAbs_mul, Int.natAbs_natCast] at this
  have hc := x.reduced
  refine ⟨?_, ?_⟩
  · exact Nat.Coprime.dvd_of_dvd_mul_left (Nat.Coprime.symm hc) ⟨E.natAbs, by rw [key2, Nat.mul_comm]⟩
  · have h1 : x.num.natAbs ∣ E.natAbs := Nat.Coprime.dvd_of_dvd_mul_right hc ⟨D.natAbs, by rw [← key2]⟩
    by_cases h0 : E.natAbs = 0
    · rw [h0, Nat.zero_mul] at key2
      rcases Nat.mul_eq_zero.1 key2 with h | h
      · omega
      · omega
    · exact Nat.le_trans (Nat.le_of_dvd (by omega) h1) e2
end Go.Proofs.Ytdkbnbebioflaaa.Sim
end

section
/- Plain: what the simplex's ends say. -/
namespace Go.Proofs.Ytdkbnbebioflaaa.Sim
set_option linter.unusedVariables false
set_option linter.unusedSimpArgs false

/-- One exchange more. -/
theorem Run.snoc {q : Qu} {S : Nat → St} {a v : Nat → Nat} {K : Nat} (h : Run q S a v K) {i u : Nat} (hw : Wrong q (S K) i) (hh : Helps q (S K) i u) :
    ∃ S' a' v', Run q S' a' v' (K + 1) ∧ S' (K + 1) = step q (S K) i u := by
  refine ⟨fun k => if k ≤ K then S k else step q (S K) i u, fun k => if k < K then a k else i, fun k => if k < K then v k else u, ?_, by show (if K + 1 ≤ K then _ else _) = _; rw [if_neg (by omega)]⟩
  refine ⟨by simpa using h.first, fun k hk => ?_, fun k hk => ?_, fun k hk => ?_⟩
  · simp only [if_pos (show k ≤ K by omega)]
    by_cases e : k < K
    · rw [if_pos e]; exact h.wrong k e
    · rw [if_neg e, show k = K by omega]; exact hw
  · simp only [if_pos (show k ≤ K by omega)]
    by_cases e : k < K
    · rw [if_pos e, if_pos e]; exact h.helps k e
    · rw [if_neg e, if_neg e, show k = K by omega]; exact hh
  · simp only [if_pos (show k ≤ K by omega)]
    by_cases e : k < K
    · rw [if_pos (by omega), if_pos e, if_pos e]; exact h.next k e
    · rw [if_neg (by omega), if_neg e, if_neg e, show k = K by omega]
theorem Run.zero (q : Qu) : Run q (fun _ => start q) (fun _ => 0) (fun _ => 0) 0 := ⟨start_inv q, fun k hk => by omega, fun k hk => by omega, fun k hk => by omega⟩

/-- There is not both a point and weights. -/
theorem sumN_swap (f : Nat → Nat → Rat) (m : Nat) : ∀ n, sumN m (fun j => sumN n (fun k => f j k)) = sumN n (fun k => sumN m (fun j => f j k))
  | 0 => by simp only [sumN]; exact sumN_zero fun k hk => rfl
  | n + 1 => by simp only [sumN]; rw [sumN_add, sumN_swap f m n]
theorem sumN_le {f g : Nat → Rat} : ∀ {n : Nat}, (∀ k, k < n → f k ≤ g k) → sumN n f ≤ sumN n g
  | 0, _ => by rw [sumN, sumN]; grind
  | n + 1, h => by
    rw [sumN, sumN]
    have h1 := sumN_le (f := f) (g := g) (n := n) (fun k hk => h k (by omega))
    have h2 := h n (by omega)
    grind
/-- With C x + K at most 0 and weights y. -/
theorem not_both {n m : Nat} {C : Nat → Nat → Rat} {K y x : Nat → Rat} (hx : ∀ j, j < m → sumN n (fun k => C j k * x k) + K j ≤ 0) (hy : ∀ j, j < m → 0 ≤ y j) (hz : ∀ k, k < n → sumN m (fun j => y j * C j k) = 0) (hp : 0 < sumN m (fun j => y j * K j)) : False := by
  have h1 : sumN m (fun j => y j * sumN n (fun k => C j k * x k)) = 0 := by
    have e : ∀ j, j < m → y j * sumN n (fun k => C j k * x k) = sumN n (fun k => y j * (C j k * x k)) := fun j hj => (sumN_mul _ _ _).symm
    rw [sumN_congr e, sumN_swap]
    refine sumN_zero fun k hk => ?_
    have e2 : ∀ j, j < m → y j * (C j k * x k) = x k * (y j * C j k) := fun j hj => by grind
    rw [sumN_congr e2, sumN_mul, hz k hk]; grind
  have h2 : sumN m (fun j => y j * sumN n (fun k => C j k * x k) + y j * K j) ≤ sumN m (fun _ => 0) := by
    refine sumN_le fun j hj => ?_
    have a := hx j hj
    have b := Rat.mul_nonneg (a := y j) (b := -(sumN n (fun k => C j k * x k) + K j)) (hy j hj) (by grind)
    grind
  rw [sumN_add, h1, sumN_zero (f := fun _ => (0 : Rat)) (fun _ _ => rfl)] at h2
  grind
end Go.Proofs.Ytdkbnbebioflaaa.Sim
end

section
/- Plain: linear.Solve as a function over the rationals, each of whose steps may find no room. -/
namespace Go.Proofs.Ytdkbnbebioflaaa.Lin
open Go.RowKit Go.Proofs.Ytdkbnbebioflaaa.Given Go.Proofs.Ytdkbnbebioflaaa.Num Go.Proofs.Ytdkbnbebioflaaa.Sim
set_option linter.unusedVariables false
set_option linter.unusedSimpArgs false

def okQ (x : Rat) : Option Rat := if Fit x then some x else none
def okI (x : Int) : Option Int := if In64 x then some x else none
theorem okQ_fit {x : Rat} (h : Fit x) : okQ x = some x := if_pos h

structure Tab where
  basic : List Nat
  rows : List (List Rat)
  value : List Rat
  limits : List Rat

def rdQ (l : List Rat) (i : Nat) : Rat := l.getD i 0
def rdR (l : List (List Rat)) (i : Nat) : List Rat := l.getD i []
def rdN (l : List Nat) (i : Nat) : Nat := l.getD i 0
/-- The least one that is above its limit, by its place. -/
def wrongF (vars : Nat) (t : Tab) : Nat → Nat → Option Nat → Option Nat
  | 0, _, a => a
  | d + 1, i, a => wrongF vars t d (i + 1) (if vars ≤ rdN t.basic i ∧ rdQ t.limits (rdN t.basic i - vars) < rdQ t.value (rdN t.basic i) ∧ (∀ b, a = some b → rdN t.basic i < rdN t.basic b) then some i else a)
def wrong (vars : Nat) (t : Tab) : Option Nat := wrongF vars t t.basic.length 0 none
def goodQ (vars : Nat) (t : Tab) (row : List Rat) (v : Nat) : Prop := 0 < rdQ row v ∨ (rdQ row v < 0 ∧ (v < vars ∨ rdQ t.value v < rdQ t.limits (v - vars)))
instance (vars : Nat) (t : Tab) (row : List Rat) (v : Nat) : Decidable (goodQ vars t row v) := by unfold goodQ; infer_instance
/-- The least one that helps. -/
def helpsF (vars : Nat) (t : Tab) (row : List Rat) : Nat → Nat → Option Nat
  | 0, _ => none
  | d + 1, v => if goodQ vars t row v then some v else helpsF vars t row d (v + 1)
def helps (vars : Nat) (t : Tab) (i : Nat) : Option Nat := helpsF vars t (rdR t.rows i) (rdR t.rows i).length 0

def upd (t : Tab) (v a : Nat) (by_ : Rat) : Nat → Nat → List Rat → Option (List Rat)
  | 0, _, val => some val
  | d + 1, i, val => if i ≠ a ∧ rdQ (rdR t.rows i) v ≠ 0 then (okQ (rdQ (rdR t.rows i) v * by_)).bind fun p => (okQ (rdQ val (rdN t.basic i) + p)).bind fun x => upd t v a by_ d (i + 1) (val.set (rdN t.basic i) x) else upd t v a by_ d (i + 1) val
def nextF (c : Rat) : List Rat → Option (List Rat)
  | [] => some []
  | n :: l => (if n = 0 then some n else (okQ (n / c)).bind fun q => okQ (0 - q)).bind fun x => (nextF c l).bind fun r => some (x :: r)
def rowF (c : Rat) : List Rat → List Rat → Option (List Rat)
  | r :: row, n :: nx => (if n = 0 then some r else (okQ (c * n)).bind fun p => okQ (r + p)).bind fun x => (rowF c row nx).bind fun l => some (x :: l)
  | row, _ => some row
def rowsF (v a : Nat) (nx : List Rat) : Nat → List (List Rat) → Option (List (List Rat))
  | _, [] => some []
  | i, row :: l => (if i = a ∨ rdQ row v = 0 then some row else rowF (rdQ row v) (row.set v 0) nx).bind fun x => (rowsF v a nx (i + 1) l).bind fun r => some (x :: r)
def exchange (vars : Nat) (t : Tab) (a v : Nat) : Option Tab :=
  (okQ (rdQ t.limits (rdN t.basic a - vars) - rdQ t.value (rdN t.basic a))).bind fun r => (okQ (r / rdQ (rdR t.rows a) v)).bind fun by_ =>
  (okQ (rdQ (t.value.set (rdN t.basic a) (rdQ t.limits (rdN t.basic a - vars))) v + by_)).bind fun x =>
  (upd t v a by_ t.rows.length 0 ((t.value.set (rdN t.basic a) (rdQ t.limits (rdN t.basic a - vars))).set v x)).bind fun val =>
  (nextF (rdQ (rdR t.rows a) v) (((rdR t.rows a).set v 0).set (rdN t.basic a) (-1))).bind fun nx =>
  (rowsF v a nx 0 t.rows).bind fun rows => some ⟨t.basic.set a v, rows.set a nx, val, t.limits⟩

/-! An exchange that finds room. -/
end Go.Proofs.Ytdkbnbebioflaaa.Lin
end

section
/- Plain: on small rows linear's exchange always finds room, and tells the simplex's next state. -/
namespace Go.Proofs.Ytdkbnbebioflaaa.Lin
open Go.RowKit Go.Proofs.Ytdkbnbebioflaaa.Given Go.Proofs.Ytdkbnbebioflaaa.Num Go.Proofs.Ytdkbnbebioflaaa.Sim
set_option linter.unusedVariables false
set_option linter.unusedSimpArgs false

theorem rdR_set {l : List (List Rat)} {i : Nat} (h : i < l.length) (x : List Rat) (k : Nat) : rdR (l.set i x) k = if k = i then x else rdR l k := by
  unfold rdR
  rw [List.getD_eq_getElem?_getD, List.getD_eq_getElem?_getD, List.getElem?_set]
  by_cases e : i = k
  · rw [if_pos e, if_pos h, if_pos e.symm]; rfl
  · rw [if_neg e, if_neg (fun e' => e e'.symm)]
theorem rdN_set {l : List Nat} {i : Nat} (h : i < l.length) (x : Nat) (k : Nat) : rdN (l.set i x) k = if k = i then x else rdN l k := by
  unfold rdN
  rw [List.getD_eq_getElem?_getD, List.getD_eq_getElem?_getD, List.getElem?_set]
  by_cases e : i = k
  · rw [if_pos e, if_pos h, if_pos e.symm]; rfl
  · rw [if_neg e, if_neg (fun e' => e e'.symm)]

end Go.Proofs.Ytdkbnbebioflaaa.Lin
end

section
/- Plain: linear.Solve's loop; on small rows it ends, with a point or with weights. -/
namespace Go.Proofs.Ytdkbnbebioflaaa.Lin
open Go.RowKit Go.Proofs.Ytdkbnbebioflaaa.Given Go.Proofs.Ytdkbnbebioflaaa.Num Go.Proofs.Ytdkbnbebioflaaa.Sim
set_option linter.unusedVariables false
set_option linter.unusedSimpArgs false

/-- Weights, as they stand in a row. -/
def wrow (vars : Nat) (row : List Rat) : Nat → Nat → Option (List Rat)
  | 0, _ => some []
  | d + 1, j => (okQ (0 - rdQ row (vars + j))).bind fun x => (wrow vars row d (j + 1)).bind fun l => some (x :: l)
def leastF : List Rat → Int → Option Int
  | [], n => some n
  | x :: l, n => (okI (Int.gcd n x.den)).bind fun g => (okI (n * ((x.den : Int) / g))).bind fun n' => leastF l n'
def wholeF (n : Int) : List Rat → Option (List Int)
  | [] => some []
  | x :: l => (okI (x.num * (n / (x.den : Int)))).bind fun z => (wholeF n l).bind fun r => some (z :: r)
def weights (vars : Nat) (t : Tab) (a : Nat) : Option (List Int) :=
  (wrow vars (rdR t.rows a) t.limits.length 0).bind fun l => (leastF (l.set (rdN t.basic a - vars) 1) 1).bind fun n => wholeF n (l.set (rdN t.basic a - vars) 1)
/-- The loop. -/
def loop (vars : Nat) : Nat → Tab → Option (Int × List Rat × List Int)
  | f, t => match wrong vars t with
    | none => some (1, t.value.take vars, [])
    | some a => match helps vars t a with
      | none => (weights vars t a).map fun w => (2, [], w)
      | some v => match f with
        | 0 => some (0, [], [])
        | f + 1 => (exchange vars t a v).bind (loop vars f)

/-! Weights are made whole. -/
theorem whole_q {x : Rat} {n : Nat} (h : x.den ∣ n) : ((x.num * ((n : Int) / (x.den : Int)) : Int) : Rat) = x * (n : Int) := by
  obtain ⟨k, rfl⟩ := h
  have h0 := ne_den x
  have : ((x.den * k : Nat) : Int) / (x.den : Int) = (k : Int) := by rw [Int.natCast_mul]; exact Int.mul_ediv_cancel_left _ h0
  rw [this, Rat.intCast_mul, ← num_eq x, Int.natCast_mul, Rat.intCast_mul]; grind
end Go.Proofs.Ytdkbnbebioflaaa.Lin
end

section
/- Plain: linear.CheckPoint and linear.CheckFarkas; there is not both; linear.Solve. -/
namespace Go.Proofs.Ytdkbnbebioflaaa.Lin
open Go.RowKit Go.Proofs.Ytdkbnbebioflaaa.Given Go.Proofs.Ytdkbnbebioflaaa.Num Go.Proofs.Ytdkbnbebioflaaa.Sim
set_option linter.unusedVariables false
set_option linter.unusedSimpArgs false

/-- A row: its numbers, and K. -/
abbrev RowZ := List Int × Int
def holdF : List Int → List Rat → Rat → Option Rat
  | c :: cs, x :: xs, s => (okQ ((c : Rat) * x)).bind fun y => (okQ (s + y)).bind fun z => holdF cs xs z
  | _, _, s => some s
def checkRow (r : RowZ) (p : List Rat) : Bool := decide (r.1.length = p.length) && match holdF r.1 p (r.2 : Rat) with
  | some s => decide (s ≤ 0)
  | none => false
def checkPoint (rows : List RowZ) (p : List Rat) : Bool := rows.all (checkRow · p)
def weighF : List Int → List Int → Int → Option Int
  | w :: ws, c :: cs, s => (okI (w * c)).bind fun y => (okI (s + y)).bind fun z => weighF ws cs z
  | _, _, s => some s
def colZ (rows : List RowZ) (k : Nat) : List Int := rows.map fun r => r.1.getD k 0
def kZ (rows : List RowZ) : List Int := rows.map fun r => r.2
def widthZ (rows : List RowZ) : Nat := match rows with
  | [] => 0
  | r :: _ => r.1.length
def checkFarkas (rows : List RowZ) (w : List Int) : Bool :=
  decide (rows.length = w.length) && w.all (fun x => decide (0 ≤ x)) && decide (rows ≠ []) && rows.all (fun r => decide (r.1.length = widthZ rows)) &&
  (List.range (widthZ rows)).all (fun k => weighF w (colZ rows k) 0 == some 0) && match weighF w (kZ rows) 0 with
  | some s => decide (0 < s)
  | none => false

theorem okQ_some {x y : Rat} (h : okQ x = some y) : y = x := by
  unfold okQ at h
  split at h
  · exact (Option.some.inj h).symm
  · cases h
theorem okI_some {x y : Int} (h : okI x = some y) : y = x := by
  unfold okI at h
  split at h
  · exact (Option.some.inj h).symm
  · cases h
theorem sumN_shift (f : Nat → Rat) (n : Nat) : sumN (n + 1) f = f 0 + sumN n (fun k => f (k + 1)) := by
  induction n with
  | zero => rw [sumN, sumN, sumN]; grind
  | succ n ih => rw [sumN, ih, sumN]; grind
theorem holdF_some : ∀ {cs : List Int} {xs : List Rat} {s r : Rat}, cs.length = xs.length → holdF cs xs s = some r → r = s + sumN cs.length (fun k => ((cs.getD k 0 : Int) : Rat) * rdQ xs k)
  | [], [], s, r, _, h => by rw [show holdF [] [] s = some s from rfl] at h; rw [← Option.some.inj h]; simp [sumN]; grind
  | [], x :: xs, s, r, hl, h => by simp at hl
  | c :: cs, [], s, r, hl, h => by simp at hl
  | c :: cs, x :: xs, s, r, hl, h => by
    rw [holdF] at h
    obtain ⟨y, h1, h⟩ := Option.bind_eq_some_iff.1 h
    obtain ⟨z, h2, h⟩ := Option.bind_eq_some_iff.1 h
    have ih := holdF_some (by simpa using hl) h
    rw [okQ_some h1] at h2
    rw [okQ_some h2] at ih
    rw [ih, List.length_cons, sumN_shift]
    show _ = s + ((c : Rat) * x + _)
    have : ∀ k, (((c :: cs).getD (k + 1) 0 : Int) : Rat) * rdQ (x :: xs) (k + 1) = ((cs.getD k 0 : Int) : Rat) * rdQ xs k := fun k => rfl
    simp only [this]; grind
theorem weighF_some : ∀ {ws cs : List Int} {s r : Int}, ws.length = cs.length → weighF ws cs s = some r → (r : Rat) = (s : Rat) + sumN ws.length (fun k => ((ws.getD k 0 : Int) : Rat) * ((cs.getD k 0 : Int) : Rat))
  | [], [], s, r, _, h => by rw [show weighF [] [] s = some s from rfl] at h; rw [← Option.some.inj h]; simp [sumN]; grind
  | [], x :: xs, s, r, hl, h => by simp at hl
  | c :: cs, [], s, r, hl, h => by simp at hl
  | c :: cs, x :: xs, s, r, hl, h => by
    rw [weighF] at h
    obtain ⟨y, h1, h⟩ := Option.bind_eq_some_iff.1 h
    obtain ⟨z, h2, h⟩ := Option.bind_eq_some_iff.1 h
    have ih := weighF_some (by simpa using hl) h
    rw [okI_some h1] at h2
    rw [okI_some h2, Rat.intCast_add, Rat.intCast_mul] at ih
    rw [ih, List.length_cons, sumN_shift]
    show _ = (s : Rat) + ((c : Rat) * (x : Rat) + _)
    have : ∀ k, (((c :: cs).getD (k + 1) 0 : Int) : Rat) * (((x :: xs).getD (k + 1) 0 : Int) : Rat) = ((cs.getD k 0 : Int) : Rat) * ((xs.getD k 0 : Int) : Rat) := fun k => rfl
    simp only [this]; grind
/-- A row's numbers, by place. -/
def cz (rows : List RowZ) (j k : Nat) : Int := (rows.getD j ([], 0)).1.getD k 0
def kz (rows : List RowZ) (j : Nat) : Int := (rows.getD j ([], 0)).2
theorem colZ_get (rows : List RowZ) {j : Nat} (k : Nat) (h : j < rows.length) : (colZ rows k).getD j 0 = cz rows j k := by
  unfold colZ cz; simp [List.getElem?_eq_getElem h]
theorem kZ_get (rows : List RowZ) {j : Nat} (h : j < rows.length) : (kZ rows).getD j 0 = kz rows j := by
  unfold kZ kz; simp [List.getElem?_eq_getElem h]
/-- What CheckPoint says. -/
theorem point_true {rows : List RowZ} {p : List Rat} (h : checkPoint rows p = true) : ∀ j, j < rows.length → (rows.getD j ([], 0)).1.length = p.length ∧ (kz rows j : Rat) + sumN p.length (fun k => (cz rows j k : Rat) * rdQ p k) ≤ 0 := by
  intro j hj
  unfold checkPoint at h
  have h1 := List.all_eq_true.1 h rows[j] (List.getElem_mem hj)
  unfold checkRow at h1
  rw [Bool.and_eq_true, decide_eq_true_eq] at h1
  obtain ⟨h1, h2⟩ := h1
  have e : rows.getD j ([], 0) = rows[j] := by simp [List.getElem?_eq_getElem hj]
  unfold kz cz
  rw [e]
  refine ⟨h1, ?_⟩
  cases hh : holdF rows[j].1 p (rows[j].2 : Rat) with
  | none => rw [hh] at h2; cases h2
  | some r =>
    rw [hh] at h2
    have := holdF_some h1 hh
    rw [h1] at this
    rw [← this]
    simpa using h2
/-- What CheckFarkas says. -/
theorem farkas_true {rows : List RowZ} {w : List Int} (h : checkFarkas rows w = true) :
    rows ≠ [] ∧ w.length = rows.length ∧ (∀ j, j < rows.length → 0 ≤ w.getD j 0 ∧ (rows.getD j ([], 0)).1.length = widthZ rows) ∧ (∀ k, k < widthZ rows → sumN rows.length (fun j => ((w.getD j 0 : Int) : Rat) * (cz rows j k : Rat)) = 0) ∧ 0 < sumN rows.length (fun j => ((w.getD j 0 : Int) : Rat) * (kz rows j : Rat)) := by
  unfold checkFarkas at h
  simp only [Bool.and_eq_true, decide_eq_true_eq, List.all_eq_true, List.mem_range, beq_iff_eq] at h
  obtain ⟨⟨⟨⟨⟨h1, h2⟩, h3⟩, h4⟩, h5⟩, h6⟩ := h
  refine ⟨h3, h1.symm, fun j hj => ⟨?_, ?_⟩, fun k hk => ?_, ?_⟩
  · have hj' : j < w.length := by omega
    have := h2 w[j] (List.getElem_mem hj')
    simpa [List.getElem?_eq_getElem hj'] using this
  · have := h4 rows[j] (List.getElem_mem hj)
    simpa [List.getElem?_eq_getElem hj] using this
  · have := weighF_some (by unfold colZ; rw [List.length_map]; exact h1.symm) (h5 k hk)
    rw [← h1] at this
    rw [sumN_congr (g := fun j => ((w.getD j 0 : Int) : Rat) * (((colZ rows k).getD j 0 : Int) : Rat)) (fun j hj => by rw [colZ_get rows k hj])]
    have z : ((0 : Int) : Rat) = 0 := rfl
    rw [z] at this
    grind
  · cases hh : weighF w (kZ rows) 0 with
    | none => rw [hh] at h6; cases h6
    | some r =>
      rw [hh] at h6
      have h6 : 0 < r := by simpa using h6
      have := weighF_some (by unfold kZ; rw [List.length_map]; exact h1.symm) hh
      rw [← h1] at this
      rw [sumN_congr (g := fun j => ((w.getD j 0 : Int) : Rat) * (((kZ rows).getD j 0 : Int) : Rat)) (fun j hj => by rw [kZ_get rows hj])]
      have z : ((0 : Int) : Rat) = 0 := rfl
      rw [z] at this
      have h7 : ((0 : Int) : Rat) < (r : Rat) := Rat.intCast_lt_intCast.2 h6
      rw [z] at h7
      grind
/-- There is not both. -/
theorem never {rows : List RowZ} {p : List Rat} {w : List Int} (hp : checkPoint rows p = true) (hw : checkFarkas rows w = true) : False := by
  obtain ⟨h0, h1, h2, h3, h4⟩ := farkas_true hw
  have hpt := point_true hp
  have hn : 0 < rows.length := List.length_pos_iff.2 h0
  have hlen : p.length = widthZ rows := by rw [← (hpt 0 hn).1, (h2 0 hn).2]
  refine not_both (n := p.length) (m := rows.length) (C := fun j k => (cz rows j k : Rat)) (K := fun j => (kz rows j : Rat)) (y := fun j => ((w.getD j 0 : Int) : Rat)) (x := rdQ p) (fun j hj => ?_) (fun j hj => ?_) (fun k hk => h3 k (by omega)) h4
  · have := (hpt j hj).2; grind
  · have := Rat.intCast_le_intCast.2 (h2 j hj).1; exact this

/-! With room. -/
end Go.Proofs.Ytdkbnbebioflaaa.Lin
end

section
/- Plain: linear.Solve, and what it answers of small rows. -/
namespace Go.Proofs.Ytdkbnbebioflaaa.Lin
open Go.RowKit Go.Proofs.Ytdkbnbebioflaaa.Given Go.Proofs.Ytdkbnbebioflaaa.Num Go.Proofs.Ytdkbnbebioflaaa.Sim
set_option linter.unusedVariables false
set_option linter.unusedSimpArgs false

def limF : List RowZ → Option (List Rat)
  | [] => some []
  | r :: l => (okI (-r.2)).bind fun x => (limF l).bind fun t => some ((x : Rat) :: t)
def made (rows : List RowZ) (vars : Nat) : Option Tab :=
  (limF rows).bind fun lim => some ⟨(List.range rows.length).map (vars + ·), rows.map (fun r => r.1.map (fun c : Int => (c : Rat)) ++ List.replicate (vars + rows.length - r.1.length) 0), List.replicate (vars + rows.length) 0, lim⟩
def mayQ (rows : List RowZ) (vars : Int) : Bool := decide (0 ≤ vars) && decide (vars ≤ 64) && decide (rows.length ≤ 256) && rows.all (fun r => decide ((r.1.length : Int) = vars))
def solve (rows : List RowZ) (vars fuel : Int) : Int × List Rat × List Int :=
  if mayQ rows vars = true then
    match (made rows vars.toNat).bind (loop vars.toNat fuel.toNat) with
    | none => (0, [], [])
    | some (a, p, w) => if a = 1 ∧ checkPoint rows p = false ∨ a = 2 ∧ checkFarkas rows w = false then (0, [], []) else (a, p, w)
  else (0, [], [])

end Go.Proofs.Ytdkbnbebioflaaa.Lin
end
