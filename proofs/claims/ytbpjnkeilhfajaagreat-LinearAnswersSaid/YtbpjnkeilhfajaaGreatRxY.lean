/- What solve answers; a region's word. -/
import Derived.Test.YtbpjnkeilhfajaaGreatLnS1
import Derived.Test.YtbpjnkeilhfajaaGreatTl
import Derived.Test.YtbpjnkeilhfajaaGreatRxX
/- A region of open order: what is asked of the world holds till the last operation, and need not hold behind it. -/
namespace Go.Proofs.YtbpjnkeilhfajaaGreat
set_option linter.unusedVariables false
section
variable {P : Program} {ops : Array Oper} {Q : Exit → Act → World → Prop} {md : Region.Mode} {S : World → Prop}
variable {x0 x1 x2 x3 x4 x5 x6 x7 x8 x9 x10 x11 x12 x13 x14 x15 x16 x17 x18 x19 x20 x21 x22 x23 x24 x25 x26 x27 x28 x29 x30 x31 x32 x33 x34 x35 x36 x37 x38 x39 x40 x41 x42 x43 x44 x45 x46 x47 : Oper} {l : List Oper}
theorem al25 : Al P md (x0 :: x1 :: x2 :: x3 :: x4 :: x5 :: x6 :: x7 :: x8 :: x9 :: x10 :: x11 :: x12 :: x13 :: x14 :: x15 :: x16 :: x17 :: x18 :: x19 :: x20 :: x21 :: x22 :: x23 :: x24 :: x25 :: l) 25 x25 Q S := Al.mk rfl
end
end Go.Proofs.YtbpjnkeilhfajaaGreat
namespace Go.Proofs.YtbpjnkeilhfajaaGreat.Ln
open Go.RowKit Go.Proofs.YtbpjnkeilhfajaaGreat.Num Go.Proofs.YtbpjnkeilhfajaaGreat.Given Go.Proofs.YtbpjnkeilhfajaaGreat.Lin Go.Proofs.YtbpjnkeilhfajaaGreatW.PrintWords
set_option linter.unusedVariables false

/-- The ways that Solve answers. -/
theorem solve_cases (z : List RowZ) (v f : Int) : (solve z v f = (0, [], []) ∧ True) ∨ (mayQ z v = true ∧ ∃ a p w, (made z v.toNat).bind (loop v.toNat f.toNat) = some (a, p, w) ∧ solve z v f = (a, p, w) ∧ ¬ (a = 1 ∧ checkPoint z p = false ∨ a = 2 ∧ checkFarkas z w = false)) := by
  unfold solve
  by_cases hm : mayQ z v = true
  · rw [if_pos hm]
    cases ho : (made z v.toNat).bind (loop v.toNat f.toNat) with
    | none => exact .inl ⟨rfl, trivial⟩
    | some s =>
      obtain ⟨a, p, w⟩ := s
      dsimp only
      by_cases hc : a = 1 ∧ checkPoint z p = false ∨ a = 2 ∧ checkFarkas z w = false
      · rw [if_pos hc]; exact .inl ⟨rfl, trivial⟩
      · rw [if_neg hc]; exact .inr ⟨hm, a, p, w, rfl, rfl, hc⟩
  · rw [if_neg hm]; exact .inl ⟨rfl, trivial⟩
theorem solve_may {z : List RowZ} {v f : Int} (h : mayQ z v = false) : solve z v f = (0, [], []) := by
  unfold solve; rw [if_neg (by rw [h]; decide)]
theorem solve_yes {z : List RowZ} {v f : Int} (h : (solve z v f).1 = 1) : checkPoint z (solve z v f).2.1 = true := by
  rcases solve_cases z v f with ⟨e, -⟩ | ⟨-, a, p, w, -, e, hc⟩
  · rw [e] at h; cases h
  · rw [e] at h ⊢
    dsimp only at h ⊢
    cases hp : checkPoint z p with
    | true => rfl
    | false => exact (hc (.inl ⟨h, hp⟩)).elim
theorem solve_no {z : List RowZ} {v f : Int} (h : (solve z v f).1 = 2) : checkFarkas z (solve z v f).2.2 = true := by
  rcases solve_cases z v f with ⟨e, -⟩ | ⟨-, a, p, w, -, e, hc⟩
  · rw [e] at h; cases h
  · rw [e] at h ⊢
    dsimp only at h ⊢
    cases hp : checkFarkas z w with
    | true => rfl
    | false => exact (hc (.inr ⟨h, hp⟩)).elim
theorem mayQ_true {z : List RowZ} {v : Int} (h : mayQ z v = true) : 0 ≤ v ∧ v ≤ 64 ∧ z.length ≤ 256 ∧ ∀ r, r ∈ z → (r.1.length : Int) = v := by
  unfold mayQ at h
  simp only [Bool.and_eq_true, decide_eq_true_eq, List.all_eq_true] at h
  exact ⟨h.1.1.1, h.1.1.2, h.1.2, h.2⟩
theorem solve_fit {l : List S40} (hin : ∀ r, r ∈ l → RowIn r) (v f : Int) : (∀ x, x ∈ (solve (l.map toZ) v f).2.1 → Fit x) ∧ (∀ x, x ∈ (solve (l.map toZ) v f).2.2 → In64 x) := by
  rcases solve_cases (l.map toZ) v f with ⟨e, -⟩ | ⟨hm, a, p, w, ho, e, -⟩
  · rw [e]; exact ⟨(fun x hx => by cases hx), (fun x hx => by cases hx)⟩
  · rw [e]
    obtain ⟨h0, h64, h256, hlen⟩ := mayQ_true hm
    rw [List.length_map] at h256
    obtain ⟨t, ht, h2⟩ := bind_some' ho
    exact loop_fit _ (made_wf hin (show v.toNat ≤ 64 by omega) h256 (fun r hr => by
      have := hlen (toZ r) (List.mem_map_of_mem hr)
      unfold toZ at this
      dsimp only at this
      omega) ht) h2
theorem chkP_sol {l m : List S40} (hin : ∀ r, r ∈ l → RowIn r) (v f : Int) : chkP m ((solve (l.map toZ) v f).2.1.map ofQ) = checkPoint (m.map toZ) (solve (l.map toZ) v f).2.1 := chkP_of (solve_fit hin v f).1
theorem checkPoint_app {a b : List RowZ} {p : List Rat} : checkPoint (a ++ b) p = (checkPoint a p && checkPoint b p) := by unfold checkPoint; rw [List.all_append]
/-- Of no rows there is a point. -/
theorem solve_nil (v f : Int) : solve [] v f = if 0 ≤ v ∧ v ≤ 64 then (1, List.replicate v.toNat 0, []) else (0, [], []) := by
  by_cases h : 0 ≤ v ∧ v ≤ 64
  · rw [if_pos h]
    unfold solve
    rw [if_pos (by unfold mayQ; simp [h.1, h.2])]
    have h1 : (made [] v.toNat).bind (loop v.toNat f.toNat) = some (1, List.replicate v.toNat 0, []) := by
      simp only [made, limF, Option.bind_some, List.length_nil, List.range_zero, List.map_nil, Nat.add_zero]
      unfold loop
      have hw : wrong v.toNat (⟨[], [], List.replicate v.toNat 0, []⟩ : Tab) = none := rfl
      rw [hw]
      simp
    rw [h1]
    dsimp only
    rw [if_neg (by
      rintro (⟨_, h⟩ | ⟨h, _⟩)
      · cases h
      · cases h)]
  · rw [if_neg h]
    exact solve_may (by
      unfold mayQ
      rcases Classical.not_and_iff_not_or_not.1 h with h | h
      · simp [h]
      · simp [h])

end Go.Proofs.YtbpjnkeilhfajaaGreat.Ln
