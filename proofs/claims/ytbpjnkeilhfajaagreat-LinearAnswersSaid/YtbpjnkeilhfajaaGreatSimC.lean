import Derived.Test.YtbpjnkeilhfajaaGreatSimA
import Derived.Test.YtbpjnkeilhfajaaGreatNumV
section
/- Plain: how large the numbers of the simplex become (Cramer). -/
namespace Go.Proofs.YtbpjnkeilhfajaaGreat.Sim
set_option linter.unusedVariables false
set_option linter.unusedSimpArgs false
def det (a b c d e f g h i : Int) : Int := a * (e * i - f * h) - b * (d * i - f * g) + c * (d * h - e * g)
theorem det_cast (a b c d e f g h i : Int) : ((det a b c d e f g h i : Int) : Rat) = (a : Rat) * (e * i - f * h) - b * (d * i - f * g) + c * (d * h - e * g) := by
 unfold det
 simp only [Rat.intCast_add, Rat.intCast_sub, Rat.intCast_mul]
theorem det_mul (a b c d e f g h i p q r s t u v w x : Rat) :
 (a*(e*i-f*h) - b*(d*i-f*g) + c*(d*h-e*g)) * (p*(t*x-u*w) - q*(s*x-u*v) + r*(s*w-t*v)) =
 ((a*p+b*s+c*v)*((d*q+e*t+f*w)*(g*r+h*u+i*x)-(d*r+e*u+f*x)*(g*q+h*t+i*w)) - (a*q+b*t+c*w)*((d*p+e*s+f*v)*(g*r+h*u+i*x)-(d*r+e*u+f*x)*(g*p+h*s+i*v)) + (a*r+b*u+c*x)*((d*p+e*s+f*v)*(g*q+h*t+i*w)-(d*q+e*t+f*w)*(g*p+h*s+i*v))) := by grind
theorem abs_mul_le {x y : Int} {a b : Nat} (hx : x.natAbs ≤ a) (hy : y.natAbs ≤ b) : (x * y).natAbs ≤ a * b := by
 rw [Int.natAbs_mul]; exact Nat.mul_le_mul hx hy
theorem abs_sub_le {x y : Int} {a b : Nat} (hx : x.natAbs ≤ a) (hy : y.natAbs ≤ b) : (x - y).natAbs ≤ a + b := by omega
theorem abs_add_le {x y : Int} {a b : Nat} (hx : x.natAbs ≤ a) (hy : y.natAbs ≤ b) : (x + y).natAbs ≤ a + b := by omega
theorem det_le {a b c d e f g h i : Int} (h1 : a.natAbs ≤ 9) (h2 : b.natAbs ≤ 9) (h3 : c.natAbs ≤ 9) (h4 : d.natAbs ≤ 9) (h5 : e.natAbs ≤ 9) (h6 : f.natAbs ≤ 9) (h7 : g.natAbs ≤ 9) (h8 : h.natAbs ≤ 9) (h9 : i.natAbs ≤ 9) : (det a b c d e f g h i).natAbs ≤ 4374 := by
 unfold det
 have a1 := abs_mul_le h1 (abs_sub_le (abs_mul_le h5 h9) (abs_mul_le h6 h8))
 have a2 := abs_mul_le h2 (abs_sub_le (abs_mul_le h4 h9) (abs_mul_le h6 h7))
 have a3 := abs_mul_le h3 (abs_sub_le (abs_mul_le h4 h8) (abs_mul_le h5 h7))
 exact Nat.le_trans (abs_add_le (abs_sub_le a1 a2) a3) (by decide)
structure Small (q : Qu) (c : Nat → Nat → Int) : Prop where
 three : q.n ≤ 3
 is : ∀ j k, q.C j k = (c j k : Rat)
 small : ∀ j k, (c j k).natAbs ≤ 9
def vec (q : Qu) (c : Nat → Nat → Int) (u j : Nat) : Int := if u < q.n then (if u = j then 1 else 0) else (if j < q.n then c (u - q.n) j else 0)
theorem vec_le {q : Qu} {c : Nat → Nat → Int} (h : Small q c) (u j : Nat) : (vec q c u j).natAbs ≤ 9 := by
 unfold vec
 have := h.small (u - q.n) j
 repeat' split
 all_goals omega
theorem vec_far {q : Qu} {c : Nat → Nat → Int} {u j : Nat} (hj : q.n ≤ j) : vec q c u j = 0 := by
 unfold vec
 by_cases h : u < q.n
 ·rw [if_pos h, if_neg (by omega)]
 ·rw [if_neg h, if_neg (by omega)]
theorem vec_sub {q : Qu} {c : Nat → Nat → Int} (h : Small q c) {j : Nat} (hj : j < q.n) : Sub q (fun u => ((vec q c u j : Int) : Rat)) := by
 intro i hi
 have e : ∀ k, k < q.n → q.C i k * ((vec q c k j : Int) : Rat) = if k = j then q.C i k else 0 := by
  intro k hk
  unfold vec
  rw [if_pos hk]
  by_cases e : k = j
  ·rw [if_pos e, if_pos e]; grind
  ·rw [if_neg e, if_neg e]; grind
 rw [sumN_congr e, sumN_one j (fun k => q.C i k), if_pos hj, h.is]
 show ((vec q c (q.n + i) j : Int) : Rat) = _
 unfold vec
 rw [if_neg (by omega), if_pos hj, show q.n + i - q.n = i by omega]
def lsum (f : Nat → Rat) : List Nat → Rat
 | [] => 0
 | a :: l => f a + lsum f l
theorem lsum_app (f : Nat → Rat) : ∀ l l', lsum f (l ++ l') = lsum f l + lsum f l'
 | [], l' => by rw [List.nil_append, lsum]; grind
 | a :: l, l' => by rw [List.cons_append, lsum, lsum, lsum_app f l l']; grind
theorem sum_filter (f : Nat → Rat) (P : Nat → Bool) : ∀ N, (∀ k, k < N → P k = false → f k = 0) → sumN N f = lsum f ((List.range N).filter P)
 | 0, _ => by simp [sumN, lsum]
 | N + 1, h => by
  rw [sumN, sum_filter f P N (fun k hk => h k (by omega)), List.range_succ, List.filter_append, lsum_app]
  cases hp : P N
  ·rw [List.filter_cons_of_neg (by rw [hp]; decide), List.filter_nil, lsum, h N (by omega) hp]
  ·rw [List.filter_cons_of_pos hp, List.filter_nil, lsum, lsum]; grind
def pick (q : Qu) (s : St) (f : Nat → Rat) (k : Nat) : Rat := if k < q.n then f ((nb q s).getD k 0) else 0
theorem sum_three {q : Qu} {s : St} (h : Inv q s) (h3 : q.n ≤ 3) (f : Nat → Rat) (hf : ∀ k, k < q.N → Basic q s k → f k = 0) : sumN q.N f = pick q s f 0 + pick q s f 1 + pick q s f 2 := by
 rw [sum_filter f (fun v => !isB q s v) q.N (fun k hk hp => hf k hk (isB_iff.1 (by simpa using hp)))]
 have hl := nb_len h
 unfold pick
 show lsum f (nb q s) = _
 rcases (show q.n = 0 ∨ q.n = 1 ∨ q.n = 2 ∨ q.n = 3 by omega) with e | e | e | e
 ·rw [e] at hl ⊢
  rw [List.length_eq_zero_iff.1 hl]
  simp [lsum] <;> grind
 ·rw [e] at hl ⊢
  obtain ⟨a, ha⟩ := List.length_eq_one_iff.1 hl
  rw [ha]; simp [lsum]; grind
 ·rw [e] at hl ⊢
  match hn : nb q s, hl with
  | [a, b], _ => simp [lsum]; grind
 ·rw [e] at hl ⊢
  match hn : nb q s, hl with
  | [a, b, c], _ => simp [lsum]; grind
def col (q : Qu) (c : Nat → Nat → Int) (s : St) (k j : Nat) : Int := if k < q.n then vec q c ((nb q s).getD k 0) j else if j = k then 1 else 0
theorem col_le {q : Qu} {c : Nat → Nat → Int} (h : Small q c) (s : St) (k j : Nat) : (col q c s k j).natAbs ≤ 9 := by
 unfold col
 split
 ·exact vec_le h _ _
 ·split <;> decide
def rho (q : Qu) (s : St) (i k : Nat) : Rat := pick q s (s.row i) k
theorem comb {q : Qu} {c : Nat → Nat → Int} {s : St} (h : Inv q s) (hs : Small q c) {i : Nat} (hi : i < q.m) (j : Nat) :
  ((vec q c (s.bas i) j : Int) : Rat) = rho q s i 0 * (col q c s 0 j : Int) + rho q s i 1 * (col q c s 1 j : Int) + rho q s i 2 * (col q c s 2 j : Int) := by
 have prod : ∀ k, rho q s i k * ((col q c s k j : Int) : Rat) = pick q s (fun k => s.row i k * ((vec q c k j : Int) : Rat)) k := by
  intro k
  unfold rho col pick
  by_cases e : k < q.n
  ·rw [if_pos e, if_pos e, if_pos e]
  ·rw [if_neg e, if_neg e]; grind
 rw [prod, prod, prod]
 by_cases hj : j < q.n
 ·have hd := (h.eqv _).2 (vec_sub hs hj) i hi
  rw [hd]
  exact sum_three h hs.three _ (fun k hk hb => by
   obtain ⟨x, hx, rfl⟩ := hb
   simp only [h.zero i x hi hx]; grind)
 ·have hz : ∀ u, vec q c u j = 0 := fun u => vec_far (by omega)
  have : ∀ k, pick q s (fun k => s.row i k * ((vec q c k j : Int) : Rat)) k = 0 := by
   intro k; unfold pick; split
   ·show s.row i _ * ((vec q c _ j : Int) : Rat) = 0
    rw [hz]; grind
   ·rfl
  rw [this, this, this, hz]; grind
theorem unit_comb {q : Qu} {c : Nat → Nat → Int} {s : St} (h : Inv q s) (hs : Small q c) (j : Nat) (hj3 : j < 3) :
  ∃ r0 r1 r2 : Rat, ∀ j', j' < 3 → (if j = j' then (1 : Rat) else 0) = r0 * (col q c s 0 j' : Int) + r1 * (col q c s 1 j' : Int) + r2 * (col q c s 2 j' : Int) := by
 have one : ∀ k, k < 3 → (∀ j', j' < 3 → ((col q c s k j' : Int) : Rat) = if j = j' then (1 : Rat) else 0) → ∃ r0 r1 r2 : Rat, ∀ j', j' < 3 → (if j = j' then (1 : Rat) else 0) = r0 * (col q c s 0 j' : Int) + r1 * (col q c s 1 j' : Int) + r2 * (col q c s 2 j' : Int) := by
  intro k hk he
  rcases (show k = 0 ∨ k = 1 ∨ k = 2 by omega) with rfl | rfl | rfl
  ·exact ⟨1, 0, 0, fun j' hj' => by rw [← he j' hj']; grind⟩
  ·exact ⟨0, 1, 0, fun j' hj' => by rw [← he j' hj']; grind⟩
  ·exact ⟨0, 0, 1, fun j' hj' => by rw [← he j' hj']; grind⟩
 by_cases hj : j < q.n
 ·have hv : ∀ j', ((vec q c j j' : Int) : Rat) = if j = j' then (1 : Rat) else 0 := by
   intro j'; unfold vec; rw [if_pos hj]; split <;> rfl
  by_cases hb : Basic q s j
  ·obtain ⟨i, hi, e⟩ := hb
   refine ⟨rho q s i 0, rho q s i 1, rho q s i 2, fun j' hj' => ?_⟩
   rw [← hv j', ← e]
   exact comb h hs hi j'
  ·have hm : j ∈ nb q s := mem_nb.2 ⟨by unfold Qu.N; omega, hb⟩
   obtain ⟨k, hk, e⟩ := List.getElem_of_mem hm
   have hl := nb_len h
   have h3 := hs.three
   refine one k (by omega) (fun j' hj' => ?_)
   unfold col
   rw [if_pos (by omega), List.getD_eq_getElem?_getD, List.getElem?_eq_getElem hk, Option.getD_some, e]
   exact hv j'
 ·refine one j hj3 (fun j' hj' => ?_)
  unfold col
  rw [if_neg hj]
  by_cases e : j' = j
  ·rw [if_pos e, if_pos e.symm]; rfl
  ·rw [if_neg e, if_neg (fun e' => e e'.symm)]; rfl
def dt (q : Qu) (c : Nat → Nat → Int) (s : St) : Int := det (col q c s 0 0) (col q c s 0 1) (col q c s 0 2) (col q c s 1 0) (col q c s 1 1) (col q c s 1 2) (col q c s 2 0) (col q c s 2 1) (col q c s 2 2)
theorem dt_ne {q : Qu} {c : Nat → Nat → Int} {s : St} (h : Inv q s) (hs : Small q c) : dt q c s ≠ 0 := by
 intro h0
 obtain ⟨a, b, d, ha⟩ := unit_comb h hs 0 (by decide)
 obtain ⟨a', b', d', hb⟩ := unit_comb h hs 1 (by decide)
 obtain ⟨a'', b'', d'', hc⟩ := unit_comb h hs 2 (by decide)
 have hz : ((dt q c s : Int) : Rat) = 0 := by rw [h0]; rfl
 unfold dt at hz
 rw [det_cast] at hz
 have hm := det_mul a b d a' b' d' a'' b'' d'' (col q c s 0 0 : Int) (col q c s 0 1 : Int) (col q c s 0 2 : Int) (col q c s 1 0 : Int) (col q c s 1 1 : Int) (col q c s 1 2 : Int) (col q c s 2 0 : Int) (col q c s 2 1 : Int) (col q c s 2 2 : Int)
 rw [hz] at hm
 rw [← ha 0 (by decide), ← ha 1 (by decide), ← ha 2 (by decide), ← hb 0 (by decide), ← hb 1 (by decide), ← hb 2 (by decide), ← hc 0 (by decide), ← hc 1 (by decide), ← hc 2 (by decide)] at hm
 simp at hm
 grind
def Frac (D : Int) (B : Nat) (r : Rat) : Prop := ∃ E : Int, r * D = (E : Rat) ∧ E.natAbs ≤ B
theorem cramer {q : Qu} {c : Nat → Nat → Int} {s : St} (h : Inv q s) (hs : Small q c) {i : Nat} (hi : i < q.m) : ∀ k, k < 3 → Frac (dt q c s) 4374 (rho q s i k) := by
 have c0 := comb h hs hi 0
 have c1 := comb h hs hi 1
 have c2 := comb h hs hi 2
 have hv := vec_le hs (s.bas i)
 have hl := col_le hs s
 intro k hk
 rcases (show k = 0 ∨ k = 1 ∨ k = 2 by omega) with rfl | rfl | rfl
 ·refine ⟨det (vec q c (s.bas i) 0) (vec q c (s.bas i) 1) (vec q c (s.bas i) 2) (col q c s 1 0) (col q c s 1 1) (col q c s 1 2) (col q c s 2 0) (col q c s 2 1) (col q c s 2 2), ?_, det_le (hv _) (hv _) (hv _) (hl _ _) (hl _ _) (hl _ _) (hl _ _) (hl _ _) (hl _ _)⟩
  unfold dt
  rw [det_cast, det_cast, c0, c1, c2]
  clear hv hl c0 c1 c2
  grind
 ·refine ⟨det (col q c s 0 0) (col q c s 0 1) (col q c s 0 2) (vec q c (s.bas i) 0) (vec q c (s.bas i) 1) (vec q c (s.bas i) 2) (col q c s 2 0) (col q c s 2 1) (col q c s 2 2), ?_, det_le (hl _ _) (hl _ _) (hl _ _) (hv _) (hv _) (hv _) (hl _ _) (hl _ _) (hl _ _)⟩
  unfold dt
  rw [det_cast, det_cast, c0, c1, c2]
  clear hv hl c0 c1 c2
  grind
 ·refine ⟨det (col q c s 0 0) (col q c s 0 1) (col q c s 0 2) (col q c s 1 0) (col q c s 1 1) (col q c s 1 2) (vec q c (s.bas i) 0) (vec q c (s.bas i) 1) (vec q c (s.bas i) 2), ?_, det_le (hl _ _) (hl _ _) (hl _ _) (hl _ _) (hl _ _) (hl _ _) (hv _) (hv _) (hv _)⟩
  unfold dt
  rw [det_cast, det_cast, c0, c1, c2]
  clear hv hl c0 c1 c2
  grind
theorem dt_le {q : Qu} {c : Nat → Nat → Int} (hs : Small q c) (s : St) : (dt q c s).natAbs ≤ 4374 := by
 have hl := col_le hs s
 exact det_le (hl _ _) (hl _ _) (hl _ _) (hl _ _) (hl _ _) (hl _ _) (hl _ _) (hl _ _) (hl _ _)
theorem row_frac {q : Qu} {c : Nat → Nat → Int} {s : St} (h : Inv q s) (hs : Small q c) {i k : Nat} (hi : i < q.m) (hk : k < q.N) : Frac (dt q c s) 4374 (s.row i k) := by
 by_cases hb : Basic q s k
 ·obtain ⟨x, hx, rfl⟩ := hb
  exact ⟨0, by rw [h.zero i x hi hx]; grind, by decide⟩
 ·obtain ⟨j, hj, e⟩ := List.getElem_of_mem (mem_nb.2 ⟨hk, hb⟩)
  have hl := nb_len h
  have h3 := hs.three
  have := cramer h hs hi j (by omega)
  unfold rho pick at this
  rwa [if_pos (by omega), List.getD_eq_getElem?_getD, List.getElem?_eq_getElem hj, Option.getD_some, e] at this
theorem Frac.int (D : Int) {B b : Nat} (hD : D.natAbs ≤ B) {x : Int} (hx : x.natAbs ≤ b) : Frac D (b * B) (x : Rat) :=
 ⟨x * D, by rw [Rat.intCast_mul], abs_mul_le hx hD⟩
theorem Frac.add {D : Int} {B C : Nat} {x y : Rat} (hx : Frac D B x) (hy : Frac D C y) : Frac D (B + C) (x + y) := by
 obtain ⟨E, e1, e2⟩ := hx
 obtain ⟨F, f1, f2⟩ := hy
 exact ⟨E + F, by rw [Rat.intCast_add, ← e1, ← f1]; grind, abs_add_le e2 f2⟩
theorem Frac.mul {D : Int} {B b : Nat} {x : Rat} (hx : Frac D B x) {y : Int} (hy : y.natAbs ≤ b) : Frac D (B * b) (x * y) := by
 obtain ⟨E, e1, e2⟩ := hx
 exact ⟨E * y, by rw [Rat.intCast_mul, ← e1]; grind, abs_mul_le e2 hy⟩
theorem Frac.mono {D : Int} {B C : Nat} {x : Rat} (hx : Frac D B x) (h : B ≤ C) : Frac D C x := by
 obtain ⟨E, e1, e2⟩ := hx
 exact ⟨E, e1, Nat.le_trans e2 h⟩
theorem val_frac {q : Qu} {c : Nat → Nat → Int} {s : St} (h : Inv q s) (hs : Small q c) {l : Nat → Int} (hl : ∀ v, q.lim v = (l v : Rat)) (hb : ∀ v, (l v).natAbs ≤ 9) {v : Nat} (hv : v < q.N) : Frac (dt q c s) 118098 (s.val v) := by
 have non : ∀ u, u < q.N → ¬ Basic q s u → ∃ x : Int, s.val u = (x : Rat) ∧ x.natAbs ≤ 9 := by
  intro u hu hn
  by_cases e : u < q.n
  ·exact ⟨0, by rw [h.low u e hn]; rfl, by decide⟩
  ·exact ⟨l u, by rw [h.high u (by omega) hu hn, hl], hb u⟩
 by_cases hbv : Basic q s v
 ·obtain ⟨i, hi, rfl⟩ := hbv
  have hd := (h.eqv _).2 h.val i hi
  rw [hd, sum_three h hs.three _ (fun k hk hb => by
   obtain ⟨x, hx, rfl⟩ := hb
   simp only [h.zero i x hi hx]; grind)]
  have one : ∀ k, Frac (dt q c s) 39366 (pick q s (fun k => s.row i k * s.val k) k) := by
   intro k
   unfold pick
   split
   ·rename_i hk
    have hlen := nb_len h
    have hmem : (nb q s).getD k 0 ∈ nb q s := by
     rw [List.getD_eq_getElem?_getD, List.getElem?_eq_getElem (by omega), Option.getD_some]
     exact List.getElem_mem _
    obtain ⟨h1, h2⟩ := mem_nb.1 hmem
    obtain ⟨x, hx, hx9⟩ := non _ h1 h2
    show Frac _ _ (s.row i _ * s.val _)
    rw [hx]
    exact (row_frac h hs hi h1).mul hx9
   ·exact ⟨0, by grind, by decide⟩
  exact ((one 0).add (one 1)).add (one 2)
 ·obtain ⟨x, hx, hx9⟩ := non v hv hbv
  rw [hx]
  exact (Frac.int _ (dt_le hs s) hx9).mono (by decide)
theorem Frac.parts {D : Int} (hD : D ≠ 0) {B : Nat} {x : Rat} (hx : Frac D B x) : x.den ∣ D.natAbs ∧ x.num.natAbs ≤ B := by
 obtain ⟨E, e1, e2⟩ := hx
 have hd : ((x.den : Int) : Rat) ≠ 0 := by
  intro e
  have : ((x.den : Int) : Rat) = ((0 : Int) : Rat) := e.trans rfl
  have := Rat.intCast_inj.1 this
  exact x.den_nz (by omega)
 have hx : x = ((x.num : Int) : Rat) / ((x.den : Int) : Rat) := by
  rw [← Rat.divInt_eq_div]; exact (Rat.num_divInt_den x).symm
 have key : x.num * D = E * (x.den : Int) := by
  apply Rat.intCast_inj.1
  rw [Rat.intCast_mul, Rat.intCast_mul, ← e1]
  generalize ((x.den : Int) : Rat) = d at *
  generalize ((x.num : Int) : Rat) = n at *
  rw [hx]; grind
 have key2 : x.num.natAbs * D.natAbs = E.natAbs * x.den := by
  have := congrArg Int.natAbs key
  rwa [Int.natAbs_mul, Int.natAbs_mul, Int.natAbs_natCast] at this
 have hc := x.reduced
 refine ⟨?_, ?_⟩
 ·exact Nat.Coprime.dvd_of_dvd_mul_left (Nat.Coprime.symm hc) ⟨E.natAbs, by rw [key2, Nat.mul_comm]⟩
 ·have h1 : x.num.natAbs ∣ E.natAbs := Nat.Coprime.dvd_of_dvd_mul_right hc ⟨D.natAbs, by rw [← key2]⟩
  by_cases h0 : E.natAbs = 0
  ·rw [h0, Nat.zero_mul] at key2
   rcases Nat.mul_eq_zero.1 key2 with h | h
   ·omega
   ·omega
  ·exact Nat.le_trans (Nat.le_of_dvd (by omega) h1) e2
end Go.Proofs.YtbpjnkeilhfajaaGreat.Sim
end

section
/- Plain: what the simplex's ends say. -/
namespace Go.Proofs.YtbpjnkeilhfajaaGreat.Sim
set_option linter.unusedVariables false
set_option linter.unusedSimpArgs false
theorem done_yes {q : Qu} {s : St} (h : Inv q s) (hno : ∀ i, i < q.m → q.n ≤ s.bas i → ¬ q.lim (s.bas i) < s.val (s.bas i)) : ∀ j, j < q.m → sumN q.n (fun k => q.C j k * s.val k) ≤ q.lim (q.n + j) := by
 intro j hj
 rw [← h.val j hj]
 by_cases hb : Basic q s (q.n + j)
 ·obtain ⟨i, hi, e⟩ := hb
  have := hno i hi (by omega)
  rw [e] at this
  grind
 ·rw [h.high (q.n + j) (by omega) (by unfold Qu.N; omega) hb]; grind
def wgt (q : Qu) (s : St) (i j : Nat) : Rat := if q.n + j = s.bas i then 1 else -(s.row i (q.n + j))
theorem bad_row {q : Qu} {s : St} (h : Inv q s) {i : Nat} (hi : i < q.m) (hg : ∀ u, u < q.N → ¬ Good q s i u) : (∀ k, k < q.n → s.row i k = 0) ∧ ∀ u, u < q.N → s.row i u ≤ 0 := by
 have h2 : ∀ u, u < q.N → s.row i u ≤ 0 := fun u hu => by
  have := hg u hu
  refine Classical.byContradiction fun hn => this (.inl (by grind))
 refine ⟨fun k hk => ?_, h2⟩
 have hkN : k < q.N := by unfold Qu.N; omega
 have := hg k hkN
 have h3 := h2 k hkN
 refine Classical.byContradiction fun hn => this (.inr ⟨by grind, .inl hk⟩)
theorem wgt_sum {q : Qu} {s : St} (h : Inv q s) {i : Nat} (hi : i < q.m) (hw : q.n ≤ s.bas i) (hz : ∀ k, k < q.n → s.row i k = 0) (p : Nat → Rat) :
  sumN q.m (fun j => wgt q s i j * p (q.n + j)) = p (s.bas i) - sumN q.N (fun k => s.row i k * p k) := by
 have hb : s.bas i - q.n < q.m := by have := h.lt i hi; unfold Qu.N at this; omega
 have e : ∀ j, j < q.m → wgt q s i j * p (q.n + j) = (if j = s.bas i - q.n then p (q.n + j) else 0) + (-1) * (s.row i (q.n + j) * p (q.n + j)) := by
  intro j hj
  unfold wgt
  by_cases e : q.n + j = s.bas i
  ·rw [if_pos e, if_pos (by omega), e, h.zero i i hi hi]; grind
  ·rw [if_neg e, if_neg (by omega)]; grind
 rw [sumN_congr e, sumN_add, sumN_mul, sumN_one (s.bas i - q.n) (fun j => p (q.n + j)), if_pos hb, show q.n + (s.bas i - q.n) = s.bas i by omega]
 unfold Qu.N
 rw [sumN_split, sumN_zero (f := fun k => s.row i k * p k) (fun k hk => by rw [hz k hk]; grind)]
 grind
theorem done_no {q : Qu} {s : St} (h : Inv q s) {i : Nat} (hw : Wrong q s i) (hg : ∀ u, u < q.N → ¬ Good q s i u) :
  (∀ j, j < q.m → 0 ≤ wgt q s i j) ∧ (∀ k, k < q.n → sumN q.m (fun j => wgt q s i j * q.C j k) = 0) ∧ sumN q.m (fun j => wgt q s i j * q.lim (q.n + j)) < 0 := by
 obtain ⟨hz, hle⟩ := bad_row h hw.1 hg
 refine ⟨fun j hj => ?_, fun k hk => ?_, ?_⟩
 ·unfold wgt
  split
  ·grind
  ·have := hle (q.n + j) (by unfold Qu.N; omega); grind
 ·have hs : Sub q (fun u => if u < q.n then (if u = k then 1 else 0) else q.C (u - q.n) k) := by
   intro j hj
   have e : ∀ x, x < q.n → q.C j x * (if x < q.n then (if x = k then (1 : Rat) else 0) else q.C (x - q.n) k) = if x = k then q.C j x else 0 := by
    intro x hx
    rw [if_pos hx]
    split <;> grind
   rw [sumN_congr e, sumN_one k (fun x => q.C j x), if_pos hk]
   simp only []
   rw [if_neg (by omega), show q.n + j - q.n = j by omega]
  have hd := (h.eqv _).2 hs i hw.1
  have := wgt_sum h hw.1 hw.2.1 hz (fun u => if u < q.n then (if u = k then 1 else 0) else q.C (u - q.n) k)
  rw [← hd] at this
  rw [sumN_congr (g := fun j => wgt q s i j * (if q.n + j < q.n then (if q.n + j = k then (1 : Rat) else 0) else q.C (q.n + j - q.n) k)) (fun j hj => by rw [if_neg (by omega), show q.n + j - q.n = j by omega]), this]
  grind
 ·rw [wgt_sum h hw.1 hw.2.1 hz q.lim]
  have hd := (h.eqv _).2 h.val i hw.1
  have e : sumN q.N (fun k => s.row i k * q.lim k) = sumN q.N (fun k => s.row i k * s.val k) := by
   refine sumN_congr fun k hk => ?_
   by_cases hkn : k < q.n
   ·rw [hz k hkn]; grind
   ·by_cases hb : Basic q s k
    ·obtain ⟨x, hx, rfl⟩ := hb
     rw [h.zero i x hw.1 hx]; grind
    ·rw [h.high k (by omega) hk hb]
  rw [e, ← hd]
  have := hw.2.2.1
  grind
theorem Run.snoc {q : Qu} {S : Nat → St} {a v : Nat → Nat} {K : Nat} (h : Run q S a v K) {i u : Nat} (hw : Wrong q (S K) i) (hh : Helps q (S K) i u) :
  ∃ S' a' v', Run q S' a' v' (K + 1) ∧ S' (K + 1) = step q (S K) i u := by
 refine ⟨fun k => if k ≤ K then S k else step q (S K) i u, fun k => if k < K then a k else i, fun k => if k < K then v k else u, ?_, by show (if K + 1 ≤ K then _ else _) = _; rw [if_neg (by omega)]⟩
 refine ⟨by simpa using h.first, fun k hk => ?_, fun k hk => ?_, fun k hk => ?_⟩
 ·simp only [if_pos (show k ≤ K by omega)]
  by_cases e : k < K
  ·rw [if_pos e]; exact h.wrong k e
  ·rw [if_neg e, show k = K by omega]; exact hw
 ·simp only [if_pos (show k ≤ K by omega)]
  by_cases e : k < K
  ·rw [if_pos e, if_pos e]; exact h.helps k e
  ·rw [if_neg e, if_neg e, show k = K by omega]; exact hh
 ·simp only [if_pos (show k ≤ K by omega)]
  by_cases e : k < K
  ·rw [if_pos (by omega), if_pos e, if_pos e]; exact h.next k e
  ·rw [if_neg (by omega), if_neg e, if_neg e, show k = K by omega]
theorem Run.zero (q : Qu) : Run q (fun _ => start q) (fun _ => 0) (fun _ => 0) 0 := ⟨start_inv q, fun k hk => by omega, fun k hk => by omega, fun k hk => by omega⟩
theorem sumN_swap (f : Nat → Nat → Rat) (m : Nat) : ∀ n, sumN m (fun j => sumN n (fun k => f j k)) = sumN n (fun k => sumN m (fun j => f j k))
 | 0 => by simp only [sumN]; exact sumN_zero fun k hk => rfl
 | n + 1 => by simp only [sumN]; rw [sumN_add, sumN_swap f m n]
theorem sumN_le {f g : Nat → Rat} : ∀ {n : Nat}, (∀ k, k < n → f k ≤ g k) → sumN n f ≤ sumN n g
 | 0, _ => by rw [sumN, sumN]; grind
 | n + 1, h => by
  rw [sumN, sumN]
  have h1 := sumN_le (f := f) (g := g) (n := n) (fun k hk => h k (by omega))
  have h2 := h n (by omega)
  grind
theorem not_both {n m : Nat} {C : Nat → Nat → Rat} {K y x : Nat → Rat} (hx : ∀ j, j < m → sumN n (fun k => C j k * x k) + K j ≤ 0) (hy : ∀ j, j < m → 0 ≤ y j) (hz : ∀ k, k < n → sumN m (fun j => y j * C j k) = 0) (hp : 0 < sumN m (fun j => y j * K j)) : False := by
 have h1 : sumN m (fun j => y j * sumN n (fun k => C j k * x k)) = 0 := by
  have e : ∀ j, j < m → y j * sumN n (fun k => C j k * x k) = sumN n (fun k => y j * (C j k * x k)) := fun j hj => (sumN_mul _ _ _).symm
  rw [sumN_congr e, sumN_swap]
  refine sumN_zero fun k hk => ?_
  have e2 : ∀ j, j < m → y j * (C j k * x k) = x k * (y j * C j k) := fun j hj => by grind
  rw [sumN_congr e2, sumN_mul, hz k hk]; grind
 have h2 : sumN m (fun j => y j * sumN n (fun k => C j k * x k) + y j * K j) ≤ sumN m (fun _ => 0) := by
  refine sumN_le fun j hj => ?_
  have a := hx j hj
  have b := Rat.mul_nonneg (a := y j) (b := -(sumN n (fun k => C j k * x k) + K j)) (hy j hj) (by grind)
  grind
 rw [sumN_add, h1, sumN_zero (f := fun _ => (0 : Rat)) (fun _ _ => rfl)] at h2
 grind
end Go.Proofs.YtbpjnkeilhfajaaGreat.Sim
end

section
/- Plain: linear.Solve as a function over the rationals, each of whose steps may find no room. -/
namespace Go.Proofs.YtbpjnkeilhfajaaGreat.Lin
open Go.RowKit Go.Proofs.YtbpjnkeilhfajaaGreat.Given Go.Proofs.YtbpjnkeilhfajaaGreat.Num Go.Proofs.YtbpjnkeilhfajaaGreat.Sim
set_option linter.unusedVariables false
set_option linter.unusedSimpArgs false
def okQ (x : Rat) : Option Rat := if Fit x then some x else none
def okI (x : Int) : Option Int := if In64 x then some x else none
theorem okQ_fit {x : Rat} (h : Fit x) : okQ x = some x := if_pos h
structure Tab where
 basic : List Nat
 rows : List (List Rat)
 value : List Rat
 limits : List Rat
def rdQ (l : List Rat) (i : Nat) : Rat := l.getD i 0
def rdR (l : List (List Rat)) (i : Nat) : List Rat := l.getD i []
def rdN (l : List Nat) (i : Nat) : Nat := l.getD i 0
theorem rdQ_set {l : List Rat} {i : Nat} (h : i < l.length) (x : Rat) (k : Nat) : rdQ (l.set i x) k = if k = i then x else rdQ l k := by
 unfold rdQ
 rw [List.getD_eq_getElem?_getD, List.getD_eq_getElem?_getD, List.getElem?_set]
 by_cases e : i = k
 ·rw [if_pos e, if_pos h, if_pos e.symm]; rfl
 ·rw [if_neg e, if_neg (fun e' => e e'.symm)]
def wrongF (vars : Nat) (t : Tab) : Nat → Nat → Option Nat → Option Nat
 | 0, _, a => a
 | d + 1, i, a => wrongF vars t d (i + 1) (if vars ≤ rdN t.basic i ∧ rdQ t.limits (rdN t.basic i - vars) < rdQ t.value (rdN t.basic i) ∧ (∀ b, a = some b → rdN t.basic i < rdN t.basic b) then some i else a)
def wrong (vars : Nat) (t : Tab) : Option Nat := wrongF vars t t.basic.length 0 none
def goodQ (vars : Nat) (t : Tab) (row : List Rat) (v : Nat) : Prop := 0 < rdQ row v ∨ (rdQ row v < 0 ∧ (v < vars ∨ rdQ t.value v < rdQ t.limits (v - vars)))
instance (vars : Nat) (t : Tab) (row : List Rat) (v : Nat) : Decidable (goodQ vars t row v) := by unfold goodQ; infer_instance
def helpsF (vars : Nat) (t : Tab) (row : List Rat) : Nat → Nat → Option Nat
 | 0, _ => none
 | d + 1, v => if goodQ vars t row v then some v else helpsF vars t row d (v + 1)
def helps (vars : Nat) (t : Tab) (i : Nat) : Option Nat := helpsF vars t (rdR t.rows i) (rdR t.rows i).length 0
def upd (t : Tab) (v a : Nat) (by_ : Rat) : Nat → Nat → List Rat → Option (List Rat)
 | 0, _, val => some val
 | d + 1, i, val => if i ≠ a ∧ rdQ (rdR t.rows i) v ≠ 0 then (okQ (rdQ (rdR t.rows i) v * by_)).bind fun p => (okQ (rdQ val (rdN t.basic i) + p)).bind fun x => upd t v a by_ d (i + 1) (val.set (rdN t.basic i) x) else upd t v a by_ d (i + 1) val
def nextF (c : Rat) : List Rat → Option (List Rat)
 | [] => some []
 | n :: l => (if n = 0 then some n else (okQ (n / c)).bind fun q => okQ (0 - q)).bind fun x => (nextF c l).bind fun r => some (x :: r)
def rowF (c : Rat) : List Rat → List Rat → Option (List Rat)
 | r :: row, n :: nx => (if n = 0 then some r else (okQ (c * n)).bind fun p => okQ (r + p)).bind fun x => (rowF c row nx).bind fun l => some (x :: l)
 | row, _ => some row
def rowsF (v a : Nat) (nx : List Rat) : Nat → List (List Rat) → Option (List (List Rat))
 | _, [] => some []
 | i, row :: l => (if i = a ∨ rdQ row v = 0 then some row else rowF (rdQ row v) (row.set v 0) nx).bind fun x => (rowsF v a nx (i + 1) l).bind fun r => some (x :: r)
def exchange (vars : Nat) (t : Tab) (a v : Nat) : Option Tab :=
 (okQ (rdQ t.limits (rdN t.basic a - vars) - rdQ t.value (rdN t.basic a))).bind fun r => (okQ (r / rdQ (rdR t.rows a) v)).bind fun by_ =>
 (okQ (rdQ (t.value.set (rdN t.basic a) (rdQ t.limits (rdN t.basic a - vars))) v + by_)).bind fun x =>
 (upd t v a by_ t.rows.length 0 ((t.value.set (rdN t.basic a) (rdQ t.limits (rdN t.basic a - vars))).set v x)).bind fun val =>
 (nextF (rdQ (rdR t.rows a) v) (((rdR t.rows a).set v 0).set (rdN t.basic a) (-1))).bind fun nx =>
 (rowsF v a nx 0 t.rows).bind fun rows => some ⟨t.basic.set a v, rows.set a nx, val, t.limits⟩
structure Rep (q : Qu) (t : Tab) (s : St) : Prop where
 bl : t.basic.length = q.m
 rl : t.rows.length = q.m
 cl : ∀ i, i < q.m → (rdR t.rows i).length = q.N
 vl : t.value.length = q.N
 ll : t.limits.length = q.m
 bas : ∀ i, i < q.m → rdN t.basic i = s.bas i
 row : ∀ i k, i < q.m → k < q.N → rdQ (rdR t.rows i) k = s.row i k
 val : ∀ k, k < q.N → rdQ t.value k = s.val k
 lim : ∀ j, j < q.m → rdQ t.limits j = q.lim (q.n + j)
theorem wrongF_spec {q : Qu} {t : Tab} {s : St} (h : Rep q t s) (hlt : ∀ i, i < q.m → s.bas i < q.N) : ∀ (d i : Nat) (a : Option Nat), i + d = q.m →
  (∀ b, a = some b → b < i ∧ q.n ≤ s.bas b ∧ q.lim (s.bas b) < s.val (s.bas b)) →
  (∀ j, j < i → q.n ≤ s.bas j → q.lim (s.bas j) < s.val (s.bas j) → ∃ b, a = some b ∧ s.bas b ≤ s.bas j) →
  match wrongF q.n t d i a with
  | none => ∀ j, j < q.m → q.n ≤ s.bas j → ¬ q.lim (s.bas j) < s.val (s.bas j)
  | some b => Wrong q s b
 | 0, i, a, hi, h1, h2 => by
  rw [wrongF]
  cases a with
  | none => intro j hj hn hl; obtain ⟨b, hb, -⟩ := h2 j (by omega) hn hl; cases hb
  | some b =>
   obtain ⟨b1, b2, b3⟩ := h1 b rfl
   refine ⟨by omega, b2, b3, fun j hj hn hl => ?_⟩
   obtain ⟨b', e, hle⟩ := h2 j (by omega) hn hl
   cases e; exact hle
 | d + 1, i, a, hi, h1, h2 => by
  rw [wrongF]
  have hb := h.bas i (by omega)
  have hN := hlt i (by omega)
  rw [hb]
  have hv := h.val (s.bas i) hN
  rw [hv]
  by_cases hc : q.n ≤ s.bas i ∧ rdQ t.limits (s.bas i - q.n) < s.val (s.bas i) ∧ (∀ b, a = some b → s.bas i < rdN t.basic b)
  ·rw [if_pos hc]
   have hl := h.lim (s.bas i - q.n) (by unfold Qu.N at hN; omega)
   rw [show q.n + (s.bas i - q.n) = s.bas i by omega] at hl
   refine wrongF_spec h hlt d (i + 1) (some i) (by omega) (fun b e => ?_) (fun j hj hn hlt' => ?_)
   ·cases e; exact ⟨by omega, hc.1, by rw [← hl]; exact hc.2.1⟩
   ·refine ⟨i, rfl, ?_⟩
    by_cases e : j = i
    ·rw [e]; exact Nat.le_refl _
    ·obtain ⟨b, e1, e2⟩ := h2 j (by omega) hn hlt'
     have h3 := hc.2.2 b e1
     rw [h.bas b (by have := (h1 b e1).1; omega)] at h3
     omega
  ·rw [if_neg hc]
   refine wrongF_spec h hlt d (i + 1) a (by omega) (fun b e => ⟨by have := (h1 b e).1; omega, (h1 b e).2⟩) (fun j hj hn hlt' => ?_)
   by_cases e : j = i
   ·subst e
    have hl := h.lim (s.bas j - q.n) (by unfold Qu.N at hN; omega)
    rw [show q.n + (s.bas j - q.n) = s.bas j by omega] at hl
    refine Classical.byContradiction fun hno => hc ⟨hn, by rw [hl]; exact hlt', fun b eb => ?_⟩
    rw [h.bas b (by have := (h1 b eb).1; omega)]
    refine Classical.byContradiction fun hge => hno ⟨b, eb, by omega⟩
   ·exact h2 j (by omega) hn hlt'
theorem wrong_spec {q : Qu} {t : Tab} {s : St} (h : Rep q t s) (hi : Inv q s) :
  match wrong q.n t with
  | none => ∀ j, j < q.m → q.n ≤ s.bas j → ¬ q.lim (s.bas j) < s.val (s.bas j)
  | some b => Wrong q s b := by
 unfold wrong
 rw [h.bl]
 exact wrongF_spec h hi.lt q.m 0 none (by omega) (fun b e => by cases e) (fun j hj => by omega)
theorem good_is {q : Qu} {t : Tab} {s : St} (h : Rep q t s) {i u : Nat} (hi : i < q.m) (hu : u < q.N) : goodQ q.n t (rdR t.rows i) u ↔ Sim.Good q s i u := by
 unfold goodQ Sim.Good
 rw [h.row i u hi hu, h.val u hu]
 by_cases hn : u < q.n
 ·simp [hn]
 ·have hl := h.lim (u - q.n) (by unfold Qu.N at hu; omega)
  rw [show q.n + (u - q.n) = u by omega] at hl
  rw [hl]
theorem helpsF_spec {q : Qu} {t : Tab} {s : St} (h : Rep q t s) {i : Nat} (hi : i < q.m) : ∀ (d v : Nat), v + d = q.N → (∀ u, u < v → ¬ Sim.Good q s i u) →
  match helpsF q.n t (rdR t.rows i) d v with
  | none => ∀ u, u < q.N → ¬ Sim.Good q s i u
  | some u => Helps q s i u
 | 0, v, hv, hb => by rw [helpsF]; exact fun u hu => hb u (by omega)
 | d + 1, v, hv, hb => by
  rw [helpsF]
  by_cases hg : goodQ q.n t (rdR t.rows i) v
  ·rw [if_pos hg]; exact ⟨by omega, (good_is h hi (by omega)).1 hg, hb⟩
  ·rw [if_neg hg]
   refine helpsF_spec h hi d (v + 1) (by omega) (fun u hu => ?_)
   by_cases e : u = v
   ·rw [e]; exact fun k => hg ((good_is h hi (by omega)).2 k)
   ·exact hb u (by omega)
theorem helps_spec {q : Qu} {t : Tab} {s : St} (h : Rep q t s) {i : Nat} (hi : i < q.m) :
  match helps q.n t i with
  | none => ∀ u, u < q.N → ¬ Sim.Good q s i u
  | some u => Helps q s i u := by
 unfold helps
 rw [h.cl i hi]
 exact helpsF_spec h hi q.N 0 (by omega) (fun u hu => by omega)
theorem nextF_is {c : Rat} : ∀ {l : List Rat}, (∀ n, n ∈ l → n ≠ 0 → Fit (n / c) ∧ Fit (0 - n / c)) → nextF c l = some (l.map fun n => if n = 0 then n else 0 - n / c)
 | [], _ => rfl
 | n :: l, h => by
  rw [nextF, nextF_is (fun x hx => h x (by simp [hx])), List.map_cons]
  by_cases e : n = 0
  ·rw [if_pos e, if_pos e]; rfl
  ·obtain ⟨h1, h2⟩ := h n (by simp) e
   rw [if_neg e, if_neg e, okQ_fit h1, Option.bind_some, okQ_fit h2]; rfl
theorem rowF_is {c : Rat} : ∀ {row nx : List Rat}, row.length = nx.length → (∀ k, k < row.length → rdQ nx k ≠ 0 → Fit (c * rdQ nx k) ∧ Fit (rdQ row k + c * rdQ nx k)) →
  ∃ r, rowF c row nx = some r ∧ r.length = row.length ∧ ∀ k, k < row.length → rdQ r k = rdQ row k + c * rdQ nx k
 | [], [], _, _ => ⟨[], rfl, rfl, fun k hk => by simp at hk⟩
 | [], n :: nx, h, _ => by simp at h
 | r :: row, [], h, _ => by simp at h
 | r :: row, n :: nx, h, hf => by
  obtain ⟨l, e1, e2, e3⟩ := rowF_is (c := c) (row := row) (nx := nx) (by simpa using h) (fun k hk => hf (k + 1) (by simp; omega))
  rw [rowF, e1]
  have h0 := hf 0 (by simp)
  have hn : rdQ (n :: nx) 0 = n := rfl
  have hr : rdQ (r :: row) 0 = r := rfl
  rw [hn, hr] at h0
  by_cases e : n = 0
  ·refine ⟨r :: l, by rw [if_pos e]; rfl, by simp [e2], fun k hk => ?_⟩
   cases k with
   | zero => rw [hn, hr, e]; show r = _; grind
   | succ k => exact e3 k (by simpa using hk)
  ·obtain ⟨f1, f2⟩ := h0 e
   refine ⟨(r + c * n) :: l, by rw [if_neg e, okQ_fit f1, Option.bind_some, okQ_fit f2]; rfl, by simp [e2], fun k hk => ?_⟩
   cases k with
   | zero => rw [hn, hr]; rfl
   | succ k => exact e3 k (by simpa using hk)
theorem rowsF_is {v a : Nat} {nx : List Rat} {N : Nat} (hnx : nx.length = N) (hv : v < N) : ∀ {l : List (List Rat)} {i : Nat}, (∀ j, j < l.length → (rdR l j).length = N) →
  (∀ j, j < l.length → i + j ≠ a → rdQ (rdR l j) v ≠ 0 → ∀ k, k < N → rdQ nx k ≠ 0 → Fit (rdQ (rdR l j) v * rdQ nx k) ∧ Fit ((if k = v then 0 else rdQ (rdR l j) k) + rdQ (rdR l j) v * rdQ nx k)) →
  ∃ r, rowsF v a nx i l = some r ∧ r.length = l.length ∧ (∀ j, j < l.length → (rdR r j).length = N) ∧ ∀ j k, j < l.length → i + j ≠ a → k < N → rdQ nx v = 0 → rdQ (rdR r j) k = (if k = v then 0 else rdQ (rdR l j) k) + rdQ (rdR l j) v * rdQ nx k
 | [], i, _, _ => ⟨[], rfl, rfl, fun j hj => by simp at hj, fun j k hj => by simp at hj⟩
 | row :: l, i, hl, hf => by
  obtain ⟨r, e1, e2, e3, e4⟩ := rowsF_is (v := v) (a := a) (l := l) (i := i + 1) hnx hv (fun j hj => hl (j + 1) (by simp; omega)) (fun j hj hne => hf (j + 1) (by simp; omega) (show i + (j + 1) ≠ a by omega))
  have hr0 : (row).length = N := hl 0 (by simp)
  have h0 : rdR (row :: l) 0 = row := rfl
  rw [rowsF, e1]
  by_cases hc : i = a ∨ rdQ row v = 0
  ·refine ⟨row :: r, by rw [if_pos hc]; rfl, by simp [e2], fun j hj => ?_, fun j k hj hne hk hz => ?_⟩
   ·cases j with
    | zero => exact hr0
    | succ j => exact e3 j (by simpa using hj)
   ·cases j with
    | zero =>
     rw [h0]
     show rdQ row k = _
     rcases hc with hc | hc
     ·omega
     ·rw [hc]
      by_cases e : k = v
      ·rw [if_pos e, e, hc]; grind
      ·rw [if_neg e]; grind
    | succ j => exact e4 j k (by simpa using hj) (by omega) hk hz
  ·have hne : i + 0 ≠ a ∧ rdQ row v ≠ 0 := ⟨fun e => hc (.inl (by omega)), fun e => hc (.inr e)⟩
   obtain ⟨x, x1, x2, x3⟩ := rowF_is (c := rdQ row v) (row := row.set v 0) (nx := nx) (by rw [List.length_set]; omega) (fun k hk hnz => by
    rw [List.length_set] at hk
    have := hf 0 (by simp) hne.1 (by rw [h0]; exact hne.2) k (by omega) hnz
    rw [h0] at this
    rw [rdQ_set (by omega)]
    exact this)
   refine ⟨x :: r, by rw [if_neg hc, x1]; rfl, by simp [e2], fun j hj => ?_, fun j k hj hne' hk hz => ?_⟩
   ·cases j with
    | zero => show x.length = N; rw [x2, List.length_set]; exact hr0
    | succ j => exact e3 j (by simpa using hj)
   ·cases j with
    | zero =>
     rw [h0]
     show rdQ x k = _
     rw [x3 k (by rw [List.length_set]; omega), rdQ_set (by omega)]
    | succ j => exact e4 j k (by simpa using hj) (by omega) hk hz
end Go.Proofs.YtbpjnkeilhfajaaGreat.Lin
end
