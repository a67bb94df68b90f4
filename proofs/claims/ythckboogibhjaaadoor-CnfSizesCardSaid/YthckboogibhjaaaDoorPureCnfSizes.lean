/- Plain law of CnfSizes: as many clauses and variables as joins take. -/
import Derived.Test.YthckboogibhjaaaDoorPCnfSizesx1
namespace Go.Proofs.YthckboogibhjaaaDoor.Pure
set_option linter.unusedVariables false
set_option linter.unusedSimpArgs false
open Go.RowKit Go.Proofs.YthckboogibhjaaaDoor.Trm Go.Proofs.YthckboogibhjaaaDoor.PCnfSizes Go.Proofs.YthckboogibhjaaaDoorW.PrintWords

mutual
/-- Clauses, and helpers, that a term takes. -/
def cT : S24 → Nat
  | ⟨op, _, _, l⟩ => if joinsB op = true then (if op = 16 ∨ op = 17 then 1 else if op = 18 then 0 else l.length + 1) + cL l else 0
def cL : List S24 → Nat
  | [] => 0
  | x :: l => cT x + cL l
end
mutual
def hT : S24 → Nat
  | ⟨op, _, _, l⟩ => if joinsB op = true then (if op = 18 then 0 else 1) + hL l else 0
def hL : List S24 → Nat
  | [] => 0
  | x :: l => hT x + hL l
end
theorem cT_mk (t : S24) : cT t = if joinsB t.f0 = true then (if t.f0 = 16 ∨ t.f0 = 17 then 1 else if t.f0 = 18 then 0 else t.f3.length + 1) + cL t.f3 else 0 := by cases t; rw [cT]
theorem hT_mk (t : S24) : hT t = if joinsB t.f0 = true then (if t.f0 = 18 then 0 else 1) + hL t.f3 else 0 := by cases t; rw [hT]

mutual
theorem T_le : ∀ (t : S24), cT t + 1 ≤ 2 * tsize t ∧ hT t ≤ tsize t
  | ⟨op, nm, n, l⟩ => by
    rw [cT, hT, tsize]
    have ih := L_le l
    have hl := len_lsize l
    repeat' split
    all_goals omega
theorem L_le : ∀ (l : List S24), cL l + l.length ≤ 2 * lsize l ∧ hL l ≤ lsize l
  | [] => by rw [cL, hL]; simp
  | x :: l => by
    rw [cL, hL, lsize, List.length_cons]
    have h1 := T_le x
    have h2 := L_le l
    omega
end

/-- Imp has two parts. -/
theorem imp_two {t : S24} {want : Int} (h : rightT t want = true) (h21 : t.f0 = 21) : t.f3.length = 2 := by
  rw [rightT_mk, if_neg (by omega), Bool.and_eq_true, h21] at h
  exact ok_len h.1 rfl
theorem leaf_none {t : S24} {want : Int} (h : rightT t want = true) (h16 : t.f0 = 16 ∨ t.f0 = 17) : t.f3.length = 0 := by
  rw [rightT_mk, if_neg (by omega), Bool.and_eq_true] at h
  rcases h16 with e | e <;> (rw [e] at h; exact ok_len h.1 rfl)
theorem right_part {t : S24} {want : Int} (h : rightT t want = true) : ∀ {j : Nat} (hj : j < t.f3.length), ∃ want', rightT t.f3[j] want' = true := by
  have hop := right_op h
  rw [rightT_mk, if_neg (by omega), Bool.and_eq_true] at h
  obtain ⟨-, h2⟩ := h
  have key : ∀ (l : List S24) (s : Shp) (i : Nat), rightL l s i = true → ∀ {j : Nat} (hj : j < l.length), ∃ want', rightT l[j] want' = true := by
    intro l
    induction l with
    | nil => intro s i _ j hj; simp at hj
    | cons x l ih =>
      intro s i hr j hj
      rw [rightL, Bool.and_eq_true] at hr
      cases j with
      | zero => exact ⟨_, hr.1⟩
      | succ j => exact ih s (i + 1) hr.2 (by simpa using hj)
  intro j hj
  exact key t.f3 _ 0 h2 hj

/-- What literal makes. -/
theorem addC_size {op h : Int} {l : List Int} {c : List (List Int)} (h1 : 16 ≤ op) (h2 : op ≤ 21) (h18 : op ≠ 18) (hl : op = 16 ∨ op = 17 → l.length = 0) : (addC op h l c).length = c.length + (l.length + 1) := by
  rcases (show op = 16 ∨ op = 17 ∨ op = 18 ∨ op = 19 ∨ op = 20 ∨ op = 21 by omega) with rfl | rfl | rfl | rfl | rfl | rfl
  · rw [addC_16, hl (.inl rfl)]; simp
  · rw [addC_17, hl (.inr rfl)]; simp
  · exact absurd rfl h18
  · rw [addC_19]; simp only [List.length_append, List.length_map, List.length_singleton]; omega
  · rw [addC_20]; simp only [List.length_append, List.length_map, List.length_singleton]; omega
  · rw [addC_21, addC_20]; simp only [List.length_append, List.length_map, List.length_singleton, List.length_set]; omega
theorem lit_size (ats : List S24) : ∀ (n : Nat) (t : S24), tsize t ≤ n → (∃ want, rightT t want = true) → ∀ (v : Int) (c : List (List Int)), (ats.length : Int) ≤ v → (litT ats t v c).2.1 = v + hT t ∧ (litT ats t v c).2.2.length = c.length + cT t := by
  intro n
  induction n with
  | zero => intro t ht; rw [tsize_mk] at ht; omega
  | succ n ih =>
    intro t ht hr v c hv
    obtain ⟨want, hr⟩ := hr
    have hparts := @right_part t want hr
    have hlist : ∀ (l : List S24), lsize l ≤ n → (∀ x, x ∈ l → ∃ want, rightT x want = true) → ∀ (v : Int) (c : List (List Int)), (ats.length : Int) ≤ v → (litL ats l v c).2.1 = v + hL l ∧ (litL ats l v c).2.2.length = c.length + cL l := by
      intro l
      induction l with
      | nil => intro _ _ v c _; rw [litL, hL, cL]; simp
      | cons x l ihl =>
        intro hs hp v c hv
        rw [lsize] at hs
        rw [litL, hL, cL]
        have h1 := ih x (by omega) (hp x List.mem_cons_self) v c hv
        have hx := tsize_mk x
        have h2 := ihl (by omega) (fun y hy => hp y (List.mem_cons_of_mem _ hy)) (litT ats x v c).2.1 (litT ats x v c).2.2 (by omega)
        constructor
        · simp only; omega
        · simp only; omega
    rw [tsize_mk] at ht
    have hl := hlist t.f3 (by omega) (fun x hx => by
      obtain ⟨j, hj, rfl⟩ := List.getElem_of_mem hx
      exact hparts hj) v c hv
    have hll := litL_le ats t.f3 v c hv
    rw [litT_mk, hT_mk, cT_mk]
    by_cases hj : joinsB t.f0 = true
    · rw [if_pos hj, if_pos hj, if_pos hj]
      have h16 : 16 ≤ t.f0 ∧ t.f0 ≤ 21 := by unfold joinsB at hj; simp at hj; exact hj
      by_cases h18 : t.f0 = 18
      · rw [if_pos h18, if_pos h18, if_neg (by omega), if_pos h18]
        simp only; omega
      · rw [if_neg h18, if_neg h18, if_neg h18]
        have hlen0 : t.f0 = 16 ∨ t.f0 = 17 → (litL ats t.f3 v c).1.length = 0 := fun h => by rw [hll.2.2.1]; exact leaf_none hr h
        have ha := addC_size (op := t.f0) (h := (litL ats t.f3 v c).2.1 + 1) (l := (litL ats t.f3 v c).1) (c := (litL ats t.f3 v c).2.2) h16.1 h16.2 h18 hlen0
        constructor
        · simp only; omega
        · simp only
          rw [ha, hll.2.2.1]
          by_cases h67 : t.f0 = 16 ∨ t.f0 = 17
          · rw [if_pos h67]; have := leaf_none hr h67; omega
          · rw [if_neg h67]; omega
    · rw [if_neg hj, if_neg hj, if_neg hj]; simp

theorem w_small {x : Int} (h : 0 ≤ x) (h2 : x ≤ 1000000) : wrap64 x = x := by unfold wrap64; omega
/-- joined tells it. -/
theorem joined_ev : ∀ (n : Nat) (t : S24), tsize t ≤ n → tsize t ≤ 2000 → (∃ want, rightT t want = true) → Ev (fun k => ashlarlaw07_joined.f k t.f0 t.f1 t.f2 t.f3) ((cT t : Int), (hT t : Int)) := by
  intro n
  induction n with
  | zero => intro t ht; rw [tsize_mk] at ht; omega
  | succ n ih =>
    intro t ht hs hr
    obtain ⟨want, hr⟩ := hr
    have hparts := @right_part t want hr
    have hll := len_lsize t.f3
    have hts := tsize_mk t
    have loop : ∀ (d i : Nat) (x4 x5 : Int), i + d = t.f3.length → 0 ≤ x4 → 0 ≤ x5 → x4 + 2 * lsize (t.f3.drop i) ≤ 100000 → x5 + lsize (t.f3.drop i) ≤ 100000 →
        Ev (fun k => ashlarlaw07_joined.l0 k x4 x5 (i : Int) t.f0 t.f1 t.f2 t.f3) (x4 + cL (t.f3.drop i), x5 + hL (t.f3.drop i)) := by
      intro d
      induction d with
      | zero =>
        intro i x4 x5 hi _ _ _ _
        refine Ev.step (f := fun _ => some (x4, x5)) (fun k => by rw [ashlarlaw07_joined.l0, if_neg (by omega)]) ?_
        rw [List.drop_of_length_le (by omega), cL, hL]
        simpa using Ev.now (x4, x5)
      | succ d ihd =>
        intro i x4 x5 hi h4 h5 b4 b5
        have hil : i < t.f3.length := by omega
        have hi1 : (i : Int) < (t.f3.length : Int) := by omega
        have hi0 : (0 : Int) ≤ (i : Int) := Int.natCast_nonneg i
        have erd : rd_T24 t.f3 (i : Int) = t.f3[i] := by simp [rd_T24, List.getElem?_eq_getElem hil]
        have hsz : tsize t.f3[i] ≤ lsize t.f3 := lsize_mem (List.getElem_mem hil)
        rw [List.drop_eq_getElem_cons hil] at b4 b5 ⊢
        rw [lsize] at b4 b5
        rw [cL, hL]
        have hx := ih t.f3[i] (by omega) (by omega) (hparts hil)
        have hle := T_le t.f3[i]
        have w4 : wrap64 (x4 + (cT t.f3[i] : Int)) = x4 + cT t.f3[i] := w_small (by omega) (by omega)
        have w5 : wrap64 (x5 + (hT t.f3[i] : Int)) = x5 + hT t.f3[i] := w_small (by omega) (by omega)
        have w6 : wrap64 ((i : Int) + 1) = ((i + 1 : Nat) : Int) := wrapj (by omega)
        have hn := ihd (i + 1) (x4 + cT t.f3[i]) (x5 + hT t.f3[i]) (by omega) (by omega) (by omega) (by omega) (by omega)
        refine Ev.step (f := fun k => (ashlarlaw07_joined.f k t.f3[i].f0 t.f3[i].f1 t.f3[i].f2 t.f3[i].f3).bind fun bt => ashlarlaw07_joined.l0 k (wrap64 (x4 + bt.1)) (wrap64 (x5 + bt.2)) (wrap64 ((i : Int) + 1)) t.f0 t.f1 t.f2 t.f3) (fun k => by rw [ashlarlaw07_joined.l0, if_pos hi1, if_pos hi0, erd]) ?_
        refine Ev.bind hx ?_
        simp only
        rw [w4, w5, w6]
        have e1 : x4 + ((cT t.f3[i] + cL (t.f3.drop (i + 1)) : Nat) : Int) = x4 + cT t.f3[i] + cL (t.f3.drop (i + 1)) := by omega
        have e2 : x5 + ((hT t.f3[i] + hL (t.f3.drop (i + 1)) : Nat) : Int) = x5 + hT t.f3[i] + hL (t.f3.drop (i + 1)) := by omega
        rw [e1, e2]
        exact hn
    have j2 : ∀ (x4 x5 : Int), 0 ≤ x4 → 0 ≤ x5 → x4 ≤ 3000 → x5 ≤ 3000 → Ev (fun k => ashlarlaw07_joined.j2 k x4 x5 t.f0 t.f1 t.f2 t.f3) (x4 + cL t.f3, x5 + hL t.f3) := by
      intro x4 x5 h4 h5 b4 b5
      refine Ev.step (f := fun k => ashlarlaw07_joined.l0 k x4 x5 0 t.f0 t.f1 t.f2 t.f3) (fun k => by rw [ashlarlaw07_joined.j2]) ?_
      have := loop t.f3.length 0 x4 x5 (by omega) h4 h5 (by rw [List.drop_zero]; omega) (by rw [List.drop_zero]; omega)
      rw [List.drop_zero] at this
      exact this
    have hw : wrap64 ((t.f3.length : Int) + 1) = t.f3.length + 1 := w_small (by omega) (by omega)
    have hcT := cT_mk t
    have hhT := hT_mk t
    by_cases hj : joinsB t.f0 = true
    · have h16 : 16 ≤ t.f0 ∧ t.f0 ≤ 21 := by unfold joinsB at hj; simp at hj; exact hj
      rw [if_pos hj] at hcT hhT
      rcases (show t.f0 = 16 ∨ t.f0 = 17 ∨ t.f0 = 18 ∨ t.f0 = 19 ∨ t.f0 = 20 ∨ t.f0 = 21 by omega) with h | h | h | h | h | h
      · rw [if_pos (.inl h)] at hcT; rw [if_neg (by omega)] at hhT
        have := j2 1 1 (by decide) (by decide) (by decide) (by decide)
        rw [hcT, hhT]
        refine Ev.step (f := fun k => ashlarlaw07_joined.j0 k 0 1 t.f0 (t.f0 == 20) t.f0 t.f1 t.f2 t.f3) (fun k => by rw [ashlarlaw07_joined.f, if_neg (by omega)]) ?_
        refine Ev.step (f := fun k => ashlarlaw07_joined.j1 k 0 1 t.f0 (t.f0 == 16) t.f0 t.f1 t.f2 t.f3) (fun k => by rw [ashlarlaw07_joined.j0, if_neg (by rw [h]; decide), if_neg (by omega), if_pos h]) ?_
        refine Ev.step (f := fun k => ashlarlaw07_joined.j2 k 1 1 t.f0 t.f1 t.f2 t.f3) (fun k => by rw [ashlarlaw07_joined.j1, if_pos (by rw [h]; decide)]) ?_
        simpa using this
      · rw [if_pos (.inr h)] at hcT; rw [if_neg (by omega)] at hhT
        have := j2 1 1 (by decide) (by decide) (by decide) (by decide)
        rw [hcT, hhT]
        refine Ev.step (f := fun k => ashlarlaw07_joined.j0 k 0 1 t.f0 (t.f0 == 20) t.f0 t.f1 t.f2 t.f3) (fun k => by rw [ashlarlaw07_joined.f, if_neg (by omega)]) ?_
        refine Ev.step (f := fun k => ashlarlaw07_joined.j1 k 0 1 t.f0 (t.f0 == 17) t.f0 t.f1 t.f2 t.f3) (fun k => by rw [ashlarlaw07_joined.j0, if_neg (by rw [h]; decide), if_neg (by omega), if_neg (by omega)]) ?_
        refine Ev.step (f := fun k => ashlarlaw07_joined.j2 k 1 1 t.f0 t.f1 t.f2 t.f3) (fun k => by rw [ashlarlaw07_joined.j1, if_pos (by rw [h]; decide)]) ?_
        simpa using this
      · rw [if_neg (by omega), if_pos h] at hcT; rw [if_pos h] at hhT
        have := j2 0 0 (by decide) (by decide) (by decide) (by decide)
        rw [hcT, hhT]
        refine Ev.step (f := fun k => ashlarlaw07_joined.j0 k 0 1 t.f0 (t.f0 == 20) t.f0 t.f1 t.f2 t.f3) (fun k => by rw [ashlarlaw07_joined.f, if_neg (by omega)]) ?_
        refine Ev.step (f := fun k => ashlarlaw07_joined.j1 k 0 1 t.f0 (t.f0 == 17) t.f0 t.f1 t.f2 t.f3) (fun k => by rw [ashlarlaw07_joined.j0, if_neg (by rw [h]; decide), if_neg (by omega), if_neg (by omega)]) ?_
        refine Ev.step (f := fun k => ashlarlaw07_joined.j2 k 0 0 t.f0 t.f1 t.f2 t.f3) (fun k => by rw [ashlarlaw07_joined.j1, if_neg (by rw [h]; decide), if_pos h]) ?_
        simpa using this
      · rw [if_neg (by omega), if_neg (by omega)] at hcT; rw [if_neg (by omega)] at hhT
        have := j2 (t.f3.length + 1) 1 (by omega) (by decide) (by omega) (by decide)
        rw [hcT, hhT]
        refine Ev.step (f := fun k => ashlarlaw07_joined.j0 k 0 1 t.f0 (t.f0 == 19) t.f0 t.f1 t.f2 t.f3) (fun k => by rw [ashlarlaw07_joined.f, if_pos h]) ?_
        refine Ev.step (f := fun k => ashlarlaw07_joined.j2 k (t.f3.length + 1) 1 t.f0 t.f1 t.f2 t.f3) (fun k => by rw [ashlarlaw07_joined.j0, if_pos (by rw [h]; decide), hw]) ?_
        simpa using this
      · rw [if_neg (by omega), if_neg (by omega)] at hcT; rw [if_neg (by omega)] at hhT
        have := j2 (t.f3.length + 1) 1 (by omega) (by decide) (by omega) (by decide)
        rw [hcT, hhT]
        refine Ev.step (f := fun k => ashlarlaw07_joined.j0 k 0 1 t.f0 (t.f0 == 20) t.f0 t.f1 t.f2 t.f3) (fun k => by rw [ashlarlaw07_joined.f, if_neg (by omega)]) ?_
        refine Ev.step (f := fun k => ashlarlaw07_joined.j2 k (t.f3.length + 1) 1 t.f0 t.f1 t.f2 t.f3) (fun k => by rw [ashlarlaw07_joined.j0, if_pos (by rw [h]; decide), hw]) ?_
        simpa using this
      · rw [if_neg (by omega), if_neg (by omega), imp_two hr h] at hcT; rw [if_neg (by omega)] at hhT
        have := j2 3 1 (by omega) (by decide) (by omega) (by decide)
        rw [hcT, hhT]
        refine Ev.step (f := fun k => ashlarlaw07_joined.j0 k 0 1 t.f0 (t.f0 == 20) t.f0 t.f1 t.f2 t.f3) (fun k => by rw [ashlarlaw07_joined.f, if_neg (by omega)]) ?_
        refine Ev.step (f := fun k => ashlarlaw07_joined.j2 k 3 1 t.f0 t.f1 t.f2 t.f3) (fun k => by rw [ashlarlaw07_joined.j0, if_neg (by rw [h]; decide), if_pos h]) ?_
        simpa using this
    · rw [if_neg hj] at hcT hhT
      have hno : t.f0 < 16 ∨ 21 < t.f0 := by unfold joinsB at hj; simp at hj; omega
      have b20 : (t.f0 == 20) = false := by simp; omega
      have b17 : (t.f0 == 17) = false := by simp; omega
      rw [hcT, hhT]
      refine Ev.step (f := fun k => ashlarlaw07_joined.j0 k 0 1 t.f0 (t.f0 == 20) t.f0 t.f1 t.f2 t.f3) (fun k => by rw [ashlarlaw07_joined.f, if_neg (by omega)]) ?_
      refine Ev.step (f := fun k => ashlarlaw07_joined.j1 k 0 1 t.f0 (t.f0 == 17) t.f0 t.f1 t.f2 t.f3) (fun k => by rw [ashlarlaw07_joined.j0, if_neg (by rw [b20]; decide), if_neg (by omega), if_neg (by omega)]) ?_
      exact Ev.step (f := fun _ => some ((0 : Int), (0 : Int))) (fun k => by rw [ashlarlaw07_joined.j1, if_neg (by rw [b17]; decide), if_neg (by omega)]) (Ev.now _)

theorem CnfSizes (t : S24) : ∃ k, ashlarlaw07_CnfSizes.f k t.f0 t.f1 t.f2 t.f3 = some true := by
  refine Ev.rounds ?_
  unfold ashlarlaw07_CnfSizes.f ashlarlaw07_shown.f cnf_Clauses.f
  simp only [Option.bind_some]
  by_cases h0 : (sortT t).2 = 0
  · by_cases h4 : (sortT t).1 = 4
    · obtain ⟨hs, hd, hr⟩ := sort_small h0
      have hcl : clausesT t = ((litT (atomsT t) t (atomsT t).length []).2.2 ++ [[(litT (atomsT t) t (atomsT t).length []).1]], atomsT t, (litT (atomsT t) t (atomsT t).length []).2.1, 0) := by unfold clausesT; rw [if_pos h0, if_pos h4]
      have hz := lit_size (atomsT t) (tsize t) t (Nat.le_refl _) ⟨0, hr⟩ (atomsT t).length [] (Int.le_refl _)
      have hj := joined_ev (tsize t) t (Nat.le_refl _) hs ⟨0, hr⟩
      have hle := T_le t
      have hal := atomsT_len t
      have ht : (⟨t.f0, t.f1, t.f2, t.f3⟩ : S24) = t := by cases t; rfl
      rw [ht, hcl]
      simp only [if_true]
      refine Ev.bind hj ?_
      have w1 : wrap64 ((cT t : Int) + 1) = cT t + 1 := w_small (by omega) (by omega)
      have w2 : wrap64 (((atomsT t).length : Int) + (hT t : Int)) = (atomsT t).length + hT t := w_small (by omega) (by omega)
      have hlen : (((litT (atomsT t) t (atomsT t).length []).2.2 ++ [[(litT (atomsT t) t (atomsT t).length []).1]]).length : Int) = cT t + 1 := by rw [List.length_append, hz.2]; simp
      simp only [w1, w2, hlen, if_true, hz.1, beq_self_eq_true]
      exact Ev.now true
    · have hcl : clausesT t = ([], [], 0, 3) := by unfold clausesT; rw [if_pos h0, if_neg h4]
      have ht : (⟨t.f0, t.f1, t.f2, t.f3⟩ : S24) = t := by cases t; rfl
      rw [ht, hcl]
      exact Ev.now true
  · have hcl : clausesT t = ([], [], 0, (sortT t).2) := by unfold clausesT; rw [if_neg h0]
    have ht : (⟨t.f0, t.f1, t.f2, t.f3⟩ : S24) = t := by cases t; rfl
    rw [ht, hcl]
    simp only [if_neg h0]
    exact Ev.now true
end Go.Proofs.YthckboogibhjaaaDoor.Pure
