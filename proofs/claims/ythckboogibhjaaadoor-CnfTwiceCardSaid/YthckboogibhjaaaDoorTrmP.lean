/- Plain: terms; how large and how deep they are, as Go's measure tells it. -/
import Derived.Test.YthckboogibhjaaaDoorTrmK
namespace Go.Proofs.YthckboogibhjaaaDoor.Trm
set_option linter.unusedVariables false
set_option linter.unusedSimpArgs false
open Go.RowKit Go.Proofs.YthckboogibhjaaaDoorW.PrintWords

mutual
/-- How many terms it is made of. -/
def tsize : S24 → Nat
  | ⟨_, _, _, l⟩ => 1 + lsize l
def lsize : List S24 → Nat
  | [] => 0
  | x :: l => tsize x + lsize l
end
mutual
/-- How deep it goes. -/
def tdeep : S24 → Nat
  | ⟨_, _, _, l⟩ => 1 + ldeep l
def ldeep : List S24 → Nat
  | [] => 0
  | x :: l => max (tdeep x) (ldeep l)
end
mutual
/-- measure.of: size and depth, no farther than it must. -/
def ofT : S24 → Nat → Nat × Nat → Nat × Nat
  | ⟨_, _, _, l⟩, d, st => ofL l d (st.1 + 1, max st.2 d)
def ofL : List S24 → Nat → Nat × Nat → Nat × Nat
  | [], _, st => st
  | x :: l, d, st => if 2000 < st.1 ∨ 100 < d then st else ofL l d (ofT x (d + 1) st)
end

theorem tsize_mk (t : S24) : tsize t = 1 + lsize t.f3 := by cases t; rw [tsize]
theorem tdeep_mk (t : S24) : tdeep t = 1 + ldeep t.f3 := by cases t; rw [tdeep]
theorem ofT_mk (t : S24) (d : Nat) (st : Nat × Nat) : ofT t d st = ofL t.f3 d (st.1 + 1, max st.2 d) := by cases t; rw [ofT]
theorem lsize_mem {x : S24} : ∀ {l : List S24}, x ∈ l → tsize x ≤ lsize l
  | y :: l, h => by
    rw [lsize]
    cases h with
    | head => omega
    | tail _ h => have := lsize_mem h; omega

mutual
theorem ofT_le : ∀ (t : S24) (d : Nat) (st : Nat × Nat), st.1 ≤ 2000 → st.2 ≤ 101 → d ≤ 101 → (ofT t d st).1 ≤ 2001 ∧ (ofT t d st).2 ≤ 101 ∧ st.1 + 1 ≤ (ofT t d st).1
  | ⟨_, _, _, l⟩, d, st, h1, h2, h3 => by
    rw [ofT]
    have := ofL_le l d (st.1 + 1, max st.2 d) (by show st.1 + 1 ≤ 2001; omega) (by show max st.2 d ≤ 101; omega) h3
    refine ⟨this.1, this.2.1, ?_⟩
    exact this.2.2
theorem ofL_le : ∀ (l : List S24) (d : Nat) (st : Nat × Nat), st.1 ≤ 2001 → st.2 ≤ 101 → d ≤ 101 → (ofL l d st).1 ≤ 2001 ∧ (ofL l d st).2 ≤ 101 ∧ st.1 ≤ (ofL l d st).1
  | [], d, st, h1, h2, h3 => by rw [ofL]; exact ⟨h1, h2, Nat.le_refl _⟩
  | x :: l, d, st, h1, h2, h3 => by
    rw [ofL]
    by_cases hc : 2000 < st.1 ∨ 100 < d
    · rw [if_pos hc]; exact ⟨h1, h2, Nat.le_refl _⟩
    · rw [if_neg hc]
      have a := ofT_le x (d + 1) st (by omega) h2 (by omega)
      have b := ofL_le l d _ a.1 a.2.1 h3
      exact ⟨b.1, b.2.1, by omega⟩
end
end Go.Proofs.YthckboogibhjaaaDoor.Trm
