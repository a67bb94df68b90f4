/- Plain: boxes; the laws WholeTimes, WholePoint, WholeMore of whole.Solve. -/
import Derived.Test.YtmcfcmijopbinaaWhC
namespace Go.Proofs.Ytmcfcmijopbinaa.Lin
open Go.RowKit Go.Proofs.Ytmcfcmijopbinaa.Given Go.Proofs.Ytmcfcmijopbinaa.Num Go.Proofs.Ytmcfcmijopbinaa.Sim
set_option linter.unusedVariables false
def twoZ (n : Nat) (lo hi : Nat → Int) : Nat → List RowZ
 | 0 => []
 | m + 1 => twoZ n lo hi m ++ [bnd n m 1 (-(hi m)), bnd n m (-1) (lo m)]
theorem twoZ_len (n : Nat) (lo hi : Nat → Int) : ∀ m, (twoZ n lo hi m).length = 2 * m
 | 0 => rfl
 | m + 1 => by rw [twoZ, List.length_append, twoZ_len n lo hi m]; simp; omega
theorem twoZ_mem {n : Nat} {lo hi : Nat → Int} : ∀ {m : Nat} {r : RowZ}, r ∈ twoZ n lo hi m → ∃ i, i < m ∧ (r = bnd n i 1 (-(hi i)) ∨ r = bnd n i (-1) (lo i))
 | 0, r, h => by cases h
 | m + 1, r, h => by
  rw [twoZ] at h
  rcases List.mem_append.1 h with h | h
  ·obtain ⟨i, hi, h⟩ := twoZ_mem h; exact ⟨i, by omega, h⟩
  ·simp only [List.mem_cons, List.not_mem_nil, or_false] at h
   exact ⟨m, Nat.lt_succ_self _, h⟩
theorem twoZ_pt {n : Nat} {lo hi : Nat → Int} {x : Nat → Rat} : ∀ {m : Nat}, m ≤ n → (Pt (twoZ n lo hi m) n x ↔ ∀ k, k < m → (lo k : Rat) ≤ x k ∧ x k ≤ (hi k : Rat))
 | 0, _ => ⟨fun _ k hk => absurd hk (Nat.not_lt_zero _), fun _ j hj => absurd hj (Nat.not_lt_zero _)⟩
 | m + 1, hm => by
  have e : twoZ n lo hi (m + 1) = twoZ n lo hi m ++ ([bnd n m 1 (-(hi m))] ++ [bnd n m (-1) (lo m)]) := rfl
  rw [e, pt_app, pt_app, twoZ_pt (by omega), pt_bnd (by omega), pt_bnd (by omega), Rat.intCast_neg, show ((1 : Int) : Rat) = 1 from rfl, show ((-1 : Int) : Rat) = -1 from rfl]
  constructor
  ·rintro ⟨h1, h2, h3⟩ k hk
   by_cases e : k = m
   ·subst e; constructor <;> grind
   ·exact h1 k (by omega)
  ·intro h
   refine ⟨fun k hk => h k (by omega), ?_, ?_⟩
   ·have := (h m (by omega)).2; grind
   ·have := (h m (by omega)).1; grind
theorem boxed_two {n : Nat} {lo hi : Nat → Int} {rows : List RowZ} (hlo : ∀ k, k < n → -9 ≤ lo k ∧ lo k ≤ hi k ∧ hi k ≤ 9) (hlen : ∀ r, r ∈ rows → r.1.length = n) (hc : ∀ r, r ∈ rows → ∀ c, c ∈ r.1 → c.natAbs ≤ 9) (hk : ∀ r, r ∈ rows → r.2.natAbs ≤ 9) (hf : 2 * (n : Int) + rows.length + tot lo hi n ≤ 27) : Boxed (twoZ n lo hi n ++ rows) n lo hi := by
 refine ⟨fun r hr => ?_, fun r hr => ?_, fun r hr => ?_, ?_, hlo, fun x hx k hk => ?_⟩
 ·rcases List.mem_append.1 hr with hr | hr
  ·obtain ⟨i, -, rfl | rfl⟩ := twoZ_mem hr <;> exact bnd_len _ _ _ _
  ·exact hlen r hr
 ·rcases List.mem_append.1 hr with hr | hr
  ·obtain ⟨i, -, rfl | rfl⟩ := twoZ_mem hr <;> exact bnd_c9 (by decide)
  ·exact hc r hr
 ·rcases List.mem_append.1 hr with hr | hr
  ·obtain ⟨i, hi', rfl | rfl⟩ := twoZ_mem hr
   ·have := hlo i hi'; show (-(hi i)).natAbs ≤ 9; omega
   ·have := hlo i hi'; show (lo i).natAbs ≤ 9; omega
  ·exact hk r hr
 ·rw [List.length_append, twoZ_len]; omega
 ·exact (twoZ_pt (Nat.le_refl n)).1 (pt_app.1 hx).1 k hk
theorem tot_const (a b : Int) : ∀ n : Nat, tot (fun _ => a) (fun _ => b) n = n * (b - a)
 | 0 => by rw [tot]; simp
 | n + 1 => by rw [tot, tot_const a b n, Int.natCast_add, Int.add_mul]; simp
theorem vol_seven : ∀ {n : Nat}, n ≤ 3 → 2 * vol (fun _ => -3) (fun _ => 3) n - 1 ≤ 1000
 | 0, _ => by decide
 | 1, _ => by decide
 | 2, _ => by decide
 | 3, _ => by decide
def boxZ (n : Nat) : List RowZ := twoZ n (fun _ => -3) (fun _ => 3) n
theorem boxed_box {n : Nat} (h3 : n ≤ 3) {rows : List RowZ} (hlen : ∀ r, r ∈ rows → r.1.length = n) (hc : ∀ r, r ∈ rows → ∀ c, c ∈ r.1 → c.natAbs ≤ 9) (hk : ∀ r, r ∈ rows → r.2.natAbs ≤ 9) (hf : rows.length ≤ 3) : Boxed (boxZ n ++ rows) n (fun _ => -3) (fun _ => 3) :=
 boxed_two (fun k hk => ⟨by decide, by decide, by decide⟩) hlen hc hk (by rw [tot_const]; omega)
theorem sum1 (f : Nat → Rat) : sumN 1 f = f 0 := by show 0 + f 0 = f 0; rw [Rat.zero_add]
theorem times_law {lo hi b : Int} (hlo : lo.natAbs ≤ 9) (hhi : hi.natAbs ≤ 9) (hb : 1 ≤ b ∧ b ≤ 8) :
  (∃ x, wsolve (boxZ 1 ++ [([b], -hi), ([-b], lo)]) 1 1000 (chkW (boxZ 1 ++ [([b], -hi), ([-b], lo)])) = (1, [x]) ∧ -3 ≤ x ∧ x ≤ 3 ∧ lo ≤ b * x ∧ b * x ≤ hi) ∨
  (wsolve (boxZ 1 ++ [([b], -hi), ([-b], lo)]) 1 1000 (chkW (boxZ 1 ++ [([b], -hi), ([-b], lo)])) = (2, []) ∧ ∀ x, -3 ≤ x → x ≤ 3 → ¬ (lo ≤ b * x ∧ b * x ≤ hi)) := by
 have hpt : ∀ q : Nat → Int, Pt (boxZ 1 ++ [([b], -hi), ([-b], lo)]) 1 (fun k => (q k : Rat)) ↔ (-3 ≤ q 0 ∧ q 0 ≤ 3) ∧ b * q 0 ≤ hi ∧ lo ≤ b * q 0 := fun q => by
  rw [show [([b], -hi), ([-b], lo)] = [(([b], -hi) : RowZ)] ++ [([-b], lo)] from rfl, pt_app, pt_app, pt_one, pt_one, sum1, sum1]
  unfold boxZ
  rw [twoZ_pt (Nat.le_refl 1)]
  have e1 : ((([b], -hi) : RowZ).1.getD 0 0 : Int) = b := rfl
  have e2 : ((([-b], lo) : RowZ).1.getD 0 0 : Int) = -b := rfl
  rw [e1, e2, ← Rat.intCast_mul, ← Rat.intCast_mul, ← Rat.intCast_add, ← Rat.intCast_add]
  have z : ∀ y : Int, ((y : Rat) ≤ 0) ↔ y ≤ 0 := fun y => @Rat.intCast_le_intCast y 0
  rw [z, z]
  have e3 : -b * q 0 = -(b * q 0) := Int.neg_mul _ _
  rw [e3]
  constructor
  ·rintro ⟨h1, h2, h3⟩
   have h := h1 0 (Nat.zero_lt_one)
   exact ⟨⟨Rat.intCast_le_intCast.1 h.1, Rat.intCast_le_intCast.1 h.2⟩, by dsimp only at h2; omega, by dsimp only at h3; omega⟩
  ·rintro ⟨⟨h1, h2⟩, h3, h4⟩
   refine ⟨fun k hk => ?_, by dsimp only; omega, by dsimp only; omega⟩
   obtain rfl : k = 0 := by omega
   exact ⟨Rat.intCast_le_intCast.2 h1, Rat.intCast_le_intCast.2 h2⟩
 have hbx := boxed_box (n := 1) (by decide) (rows := [([b], -hi), ([-b], lo)]) (fun r hr => by simp only [List.mem_cons, List.not_mem_nil, or_false] at hr; rcases hr with rfl | rfl <;> rfl)
  (fun r hr c hc => by
   simp only [List.mem_cons, List.not_mem_nil, or_false] at hr
   rcases hr with rfl | rfl <;> (simp only [List.mem_cons, List.not_mem_nil, or_false] at hc; subst hc; omega))
  (fun r hr => by simp only [List.mem_cons, List.not_mem_nil, or_false] at hr; rcases hr with rfl | rfl <;> (dsimp only; omega)) (by simp)
 rcases wsolve_box (by decide) hbx (fuel := 1000) (vol_seven (by decide)) with ⟨p, e, hl, -, hp⟩ | ⟨e, hn⟩
 ·left
  obtain ⟨x, rfl⟩ : ∃ x, p = [x] := by
   match p, hl with
   | [x], _ => exact ⟨x, rfl⟩
  have h := (hpt (fun k => [x].getD k 0)).1 hp
  exact ⟨x, e, h.1.1, h.1.2, h.2.2, h.2.1⟩
 ·right
  refine ⟨e, fun x h1 h2 h3 => hn (fun _ => x) ((hpt (fun _ => x)).2 ⟨⟨h1, h2⟩, h3.2, h3.1⟩)⟩
end Go.Proofs.Ytmcfcmijopbinaa.Lin
