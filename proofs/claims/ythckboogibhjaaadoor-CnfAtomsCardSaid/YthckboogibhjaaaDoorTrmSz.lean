/- Plain: how many clauses and helpers a term takes. -/
import Derived.Test.YthckboogibhjaaaDoorTrmX
namespace Go.Proofs.YthckboogibhjaaaDoor.Trm
set_option linter.unusedVariables false
set_option linter.unusedSimpArgs false
open Go.RowKit Go.Proofs.YthckboogibhjaaaDoorW.PrintWords

mutual
/-- Clauses, and helpers, that a term takes. -/
def cT : S24 → Nat
  | ⟨op, _, _, l⟩ => if joinsB op = true then (if op = 16 ∨ op = 17 then 1 else if op = 18 then 0 else l.length + 1) + cL l else 0
def cL : List S24 → Nat
  | [] => 0
  | x :: l => cT x + cL l
end
mutual
def hT : S24 → Nat
  | ⟨op, _, _, l⟩ => if joinsB op = true then (if op = 18 then 0 else 1) + hL l else 0
def hL : List S24 → Nat
  | [] => 0
  | x :: l => hT x + hL l
end
theorem cT_mk (t : S24) : cT t = if joinsB t.f0 = true then (if t.f0 = 16 ∨ t.f0 = 17 then 1 else if t.f0 = 18 then 0 else t.f3.length + 1) + cL t.f3 else 0 := by cases t; rw [cT]
theorem hT_mk (t : S24) : hT t = if joinsB t.f0 = true then (if t.f0 = 18 then 0 else 1) + hL t.f3 else 0 := by cases t; rw [hT]

mutual
theorem T_le : ∀ (t : S24), cT t + 1 ≤ 2 * tsize t ∧ hT t ≤ tsize t
  | ⟨op, nm, n, l⟩ => by
    rw [cT, hT, tsize]
    have ih := L_le l
    have hl := len_lsize l
    repeat' split
    all_goals omega
theorem L_le : ∀ (l : List S24), cL l + l.length ≤ 2 * lsize l ∧ hL l ≤ lsize l
  | [] => by rw [cL, hL]; simp
  | x :: l => by
    rw [cL, hL, lsize, List.length_cons]
    have h1 := T_le x
    have h2 := L_le l
    omega
end

/-- Imp has two parts. -/
theorem imp_two {t : S24} {want : Int} (h : rightT t want = true) (h21 : t.f0 = 21) : t.f3.length = 2 := by
  rw [rightT_mk, if_neg (by omega), Bool.and_eq_true, h21] at h
  exact ok_len h.1 rfl
theorem leaf_none {t : S24} {want : Int} (h : rightT t want = true) (h16 : t.f0 = 16 ∨ t.f0 = 17) : t.f3.length = 0 := by
  rw [rightT_mk, if_neg (by omega), Bool.and_eq_true] at h
  rcases h16 with e | e <;> (rw [e] at h; exact ok_len h.1 rfl)
theorem right_part {t : S24} {want : Int} (h : rightT t want = true) : ∀ {j : Nat} (hj : j < t.f3.length), ∃ want', rightT t.f3[j] want' = true := by
  have hop := right_op h
  rw [rightT_mk, if_neg (by omega), Bool.and_eq_true] at h
  obtain ⟨-, h2⟩ := h
  have key : ∀ (l : List S24) (s : Shp) (i : Nat), rightL l s i = true → ∀ {j : Nat} (hj : j < l.length), ∃ want', rightT l[j] want' = true := by
    intro l
    induction l with
    | nil => intro s i _ j hj; simp at hj
    | cons x l ih =>
      intro s i hr j hj
      rw [rightL, Bool.and_eq_true] at hr
      cases j with
      | zero => exact ⟨_, hr.1⟩
      | succ j => exact ih s (i + 1) hr.2 (by simpa using hj)
  intro j hj
  exact key t.f3 _ 0 h2 hj

/-- What literal makes. -/
theorem addC_size {op h : Int} {l : List Int} {c : List (List Int)} (h1 : 16 ≤ op) (h2 : op ≤ 21) (h18 : op ≠ 18) (hl : op = 16 ∨ op = 17 → l.length = 0) : (addC op h l c).length = c.length + (l.length + 1) := by
  rcases (show op = 16 ∨ op = 17 ∨ op = 18 ∨ op = 19 ∨ op = 20 ∨ op = 21 by omega) with rfl | rfl | rfl | rfl | rfl | rfl
  · rw [addC_16, hl (.inl rfl)]; simp
  · rw [addC_17, hl (.inr rfl)]; simp
  · exact absurd rfl h18
  · rw [addC_19]; simp only [List.length_append, List.length_map, List.length_singleton]; omega
  · rw [addC_20]; simp only [List.length_append, List.length_map, List.length_singleton]; omega
  · rw [addC_21, addC_20]; simp only [List.length_append, List.length_map, List.length_singleton, List.length_set]; omega
theorem lit_size (ats : List S24) : ∀ (n : Nat) (t : S24), tsize t ≤ n → (∃ want, rightT t want = true) → ∀ (v : Int) (c : List (List Int)), (ats.length : Int) ≤ v → (litT ats t v c).2.1 = v + hT t ∧ (litT ats t v c).2.2.length = c.length + cT t := by
  intro n
  induction n with
  | zero => intro t ht; rw [tsize_mk] at ht; omega
  | succ n ih =>
    intro t ht hr v c hv
    obtain ⟨want, hr⟩ := hr
    have hparts := @right_part t want hr
    have hlist : ∀ (l : List S24), lsize l ≤ n → (∀ x, x ∈ l → ∃ want, rightT x want = true) → ∀ (v : Int) (c : List (List Int)), (ats.length : Int) ≤ v → (litL ats l v c).2.1 = v + hL l ∧ (litL ats l v c).2.2.length = c.length + cL l := by
      intro l
      induction l with
      | nil => intro _ _ v c _; rw [litL, hL, cL]; simp
      | cons x l ihl =>
        intro hs hp v c hv
        rw [lsize] at hs
        rw [litL, hL, cL]
        have h1 := ih x (by omega) (hp x List.mem_cons_self) v c hv
        have hx := tsize_mk x
        have h2 := ihl (by omega) (fun y hy => hp y (List.mem_cons_of_mem _ hy)) (litT ats x v c).2.1 (litT ats x v c).2.2 (by omega)
        constructor
        · simp only; omega
        · simp only; omega
    rw [tsize_mk] at ht
    have hl := hlist t.f3 (by omega) (fun x hx => by
      obtain ⟨j, hj, rfl⟩ := List.getElem_of_mem hx
      exact hparts hj) v c hv
    have hll := litL_le ats t.f3 v c hv
    rw [litT_mk, hT_mk, cT_mk]
    by_cases hj : joinsB t.f0 = true
    · rw [if_pos hj, if_pos hj, if_pos hj]
      have h16 : 16 ≤ t.f0 ∧ t.f0 ≤ 21 := by unfold joinsB at hj; simp at hj; exact hj
      by_cases h18 : t.f0 = 18
      · rw [if_pos h18, if_pos h18, if_neg (by omega), if_pos h18]
        simp only; omega
      · rw [if_neg h18, if_neg h18, if_neg h18]
        have hlen0 : t.f0 = 16 ∨ t.f0 = 17 → (litL ats t.f3 v c).1.length = 0 := fun h => by rw [hll.2.2.1]; exact leaf_none hr h
        have ha := addC_size (op := t.f0) (h := (litL ats t.f3 v c).2.1 + 1) (l := (litL ats t.f3 v c).1) (c := (litL ats t.f3 v c).2.2) h16.1 h16.2 h18 hlen0
        constructor
        · simp only; omega
        · simp only
          rw [ha, hll.2.2.1]
          by_cases h67 : t.f0 = 16 ∨ t.f0 = 17
          · rw [if_pos h67]; have := leaf_none hr h67; omega
          · rw [if_neg h67]; omega
    · rw [if_neg hj, if_neg hj, if_neg hj]; simp

theorem w_small {x : Int} (h : 0 ≤ x) (h2 : x ≤ 1000000) : wrap64 x = x := by unfold wrap64; omega
end Go.Proofs.YthckboogibhjaaaDoor.Trm
