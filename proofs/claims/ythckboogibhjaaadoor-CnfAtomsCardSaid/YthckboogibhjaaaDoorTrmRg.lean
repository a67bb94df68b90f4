/- Plain laws of the verifier's Deep, Same and Size. -/
import Derived.Test.YthckboogibhjaaaDoorTrmRf
import Derived.Test.YthckboogibhjaaaDoorTrmSz
namespace Go.Proofs.YthckboogibhjaaaDoor.Trm
set_option linter.unusedVariables false
set_option linter.unusedSimpArgs false
open Go.RowKit Go.Proofs.YthckboogibhjaaaDoorW.PrintWords

theorem rd_get {l : List S24} {i : Nat} (h : i < l.length) : rd_T24 l (i : Int) = l[i] := by simp [rd_T24, List.getElem?_eq_getElem h]
theorem ldeep_get : ∀ {l : List S24} {i : Nat} (h : i < l.length), tdeep l[i] ≤ ldeep l
  | x :: l, 0, h => by rw [ldeep]; exact Nat.le_max_left _ _
  | x :: l, i + 1, h => by
    have h1 := ldeep_get (l := l) (i := i) (by simpa using h)
    rw [show ldeep (x :: l) = max (tdeep x) (ldeep l) from by rw [ldeep]]
    exact Nat.le_trans h1 (Nat.le_max_right _ _)

mutual
/-- Rows that can be: no longer than memory. -/
def fine : S24 → Prop
  | ⟨_, _, _, l⟩ => l.length ≤ 1000000000000000 ∧ fineL l
def fineL : List S24 → Prop
  | [] => True
  | x :: l => fine x ∧ fineL l
end
theorem fine_mk (t : S24) : fine t = (t.f3.length ≤ 1000000000000000 ∧ fineL t.f3) := by cases t; rw [fine]
theorem fineL_get : ∀ {l : List S24}, fineL l → ∀ {i : Nat} (h : i < l.length), fine l[i]
  | x :: l, hf, 0, h => by rw [fineL] at hf; exact hf.1
  | x :: l, hf, i + 1, h => by rw [fineL] at hf; exact fineL_get hf.2 (by simpa using h)
mutual
theorem fine_small : ∀ (t : S24), tsize t ≤ 1000000 → fine t
  | ⟨_, _, _, l⟩, h => by
    rw [tsize] at h
    rw [fine]
    have := len_lsize l
    exact ⟨by omega, fineL_small l (by omega)⟩
theorem fineL_small : ∀ (l : List S24), lsize l ≤ 1000000 → fineL l
  | [], _ => by rw [fineL]; trivial
  | x :: l, h => by
    rw [lsize] at h
    rw [fineL]
    exact ⟨fine_small x (by omega), fineL_small l (by omega)⟩
end

/-- deep: how deep it goes, at most so much. -/
theorem deep_ev : ∀ (m : Nat), m ≤ 1000 → ∀ (t : S24), fine t → Ev (fun k => ashlarref03_deep.f k t.f0 t.f1 t.f2 t.f3 ((m + 1 : Nat) : Int)) ((min (tdeep t) (m + 1) : Nat) : Int) := by
  intro m
  induction m with
  | zero =>
    intro _ t _
    have : min (tdeep t) (0 + 1) = 1 := by rw [tdeep_mk]; omega
    rw [this]
    exact Ev.step (f := fun _ => some (1 : Int)) (fun k => by rw [ashlarref03_deep.f, if_pos (by rfl)]) (Ev.now _)
  | succ m ih =>
    intro hm t hf
    rw [fine_mk] at hf
    have e1 : wrap64 (((m + 1 + 1 : Nat) : Int) - 1) = ((m + 1 : Nat) : Int) := (w_small (by omega) (by omega)).trans (by omega)
    have loop : ∀ (d i : Nat) (x5 : Nat), i + d = t.f3.length → x5 ≤ m + 1 → Ev (fun k => ashlarref03_deep.l0 k ((m + 1 + 1 : Nat) : Int) (x5 : Int) (i : Int) t.f0 t.f1 t.f2 t.f3) ((max x5 (min (ldeep (t.f3.drop i)) (m + 1)) + 1 : Nat) : Int) := by
      intro d
      induction d with
      | zero =>
        intro i x5 hi h5
        have hn : ¬ ((i : Int) < (t.f3.length : Int)) := by omega
        have e2 : wrap64 ((x5 : Int) + 1) = ((x5 + 1 : Nat) : Int) := wrapj (by omega)
        rw [List.drop_of_length_le (by omega), ldeep, Nat.zero_min, Nat.max_zero]
        exact Ev.step (f := fun _ => some ((x5 + 1 : Nat) : Int)) (fun k => by rw [ashlarref03_deep.l0, if_neg hn, e2]) (Ev.now _)
      | succ d ihd =>
        intro i x5 hi h5
        have hil : i < t.f3.length := by omega
        have hp : (i : Int) < (t.f3.length : Int) := by omega
        have hp0 : (0 : Int) ≤ (i : Int) := Int.natCast_nonneg i
        have e2 : wrap64 ((i : Int) + 1) = ((i + 1 : Nat) : Int) := wrapj (by omega)
        have hx := ih (by omega) t.f3[i] (fineL_get hf.2 hil)
        have hn := ihd (i + 1) (max x5 (min (tdeep t.f3[i]) (m + 1))) (by omega) (by omega)
        have emx : mx (x5 : Int) ((min (tdeep t.f3[i]) (m + 1) : Nat) : Int) = ((max x5 (min (tdeep t.f3[i]) (m + 1)) : Nat) : Int) := by unfold mx; split <;> omega
        have er : max x5 (min (ldeep (t.f3.drop i)) (m + 1)) = max (max x5 (min (tdeep t.f3[i]) (m + 1))) (min (ldeep (t.f3.drop (i + 1))) (m + 1)) := by
          rw [List.drop_eq_getElem_cons hil, ldeep]; omega
        rw [er]
        refine Ev.step (f := fun k => (ashlarref03_deep.f k t.f3[i].f0 t.f3[i].f1 t.f3[i].f2 t.f3[i].f3 ((m + 1 : Nat) : Int)).bind fun z => ashlarref03_deep.l0 k ((m + 1 + 1 : Nat) : Int) (mx (x5 : Int) z) ((i + 1 : Nat) : Int) t.f0 t.f1 t.f2 t.f3) (fun k => by rw [ashlarref03_deep.l0, if_pos hp, if_pos hp0, rd_get hil, e1, e2]) ?_
        refine Ev.bind hx ?_
        rw [emx]
        exact hn
    have h1 := loop t.f3.length 0 0 (by omega) (by omega)
    rw [List.drop_zero] at h1
    have hne : ¬ (((m + 1 + 1 : Nat) : Int) = 1) := by omega
    have er : min (tdeep t) (m + 1 + 1) = max 0 (min (ldeep t.f3) (m + 1)) + 1 := by rw [tdeep_mk]; omega
    rw [er]
    exact Ev.step (f := fun k => ashlarref03_deep.l0 k ((m + 1 + 1 : Nat) : Int) 0 0 t.f0 t.f1 t.f2 t.f3) (fun k => by rw [ashlarref03_deep.f, if_neg hne]) h1
theorem Deep_ev (t : S24) (hf : fine t) : Ev (fun k => ashlarref03_Deep.f k t.f0 t.f1 t.f2 t.f3) ((min (tdeep t) 101 : Nat) : Int) := by
  unfold ashlarref03_Deep.f
  exact Ev.bind (deep_ev 100 (by decide) t hf) (Ev.now _)

/-- same. -/
theorem ref_same_ev : ∀ (n : Nat) (t u : S24), tsize t ≤ n → fine t → Ev (fun k => ashlarref03_same.f k t.f0 t.f1 t.f2 t.f3 u.f0 u.f1 u.f2 u.f3) (sameT t u) := by
  intro n
  induction n with
  | zero => intro t u ht; rw [tsize_mk] at ht; omega
  | succ n ih =>
    intro t u ht hf
    rw [fine_mk] at hf
    rw [tsize_mk] at ht
    have no : Ev (fun k => ashlarref03_same.j0 k true t.f0 t.f1 t.f2 t.f3 u.f0 u.f1 u.f2 u.f3) false := Ev.step (f := fun _ => some false) (fun k => by rw [ashlarref03_same.j0, if_pos rfl]) (Ev.now _)
    have loop : t.f3.length = u.f3.length → ∀ (d i : Nat), i + d = t.f3.length → Ev (fun k => ashlarref03_same.l0 k (i : Int) t.f0 t.f1 t.f2 t.f3 u.f0 u.f1 u.f2 u.f3) (sameL (t.f3.drop i) (u.f3.drop i)) := by
      intro hlen d
      induction d with
      | zero =>
        intro i hi
        have hn : ¬ ((i : Int) < (t.f3.length : Int)) := by omega
        rw [List.drop_of_length_le (by omega), List.drop_of_length_le (by omega), sameL]
        exact Ev.step (f := fun _ => some true) (fun k => by rw [ashlarref03_same.l0, if_neg hn]) (Ev.now _)
      | succ d ihd =>
        intro i hi
        have hil : i < t.f3.length := by omega
        have hiu : i < u.f3.length := by omega
        have hp : (i : Int) < (t.f3.length : Int) := by omega
        have hpu : (i : Int) < (u.f3.length : Int) := by omega
        have hp0 : (0 : Int) ≤ (i : Int) := Int.natCast_nonneg i
        have e2 : wrap64 ((i : Int) + 1) = ((i + 1 : Nat) : Int) := wrapj (by omega)
        have hsz := lsize_mem (List.getElem_mem hil)
        have hx := ih t.f3[i] u.f3[i] (by omega) (fineL_get hf.2 hil)
        have hn := ihd (i + 1) (by omega)
        rw [List.drop_eq_getElem_cons hil, List.drop_eq_getElem_cons hiu, sameL]
        refine Ev.step (f := fun k => (ashlarref03_same.f k t.f3[i].f0 t.f3[i].f1 t.f3[i].f2 t.f3[i].f3 u.f3[i].f0 u.f3[i].f1 u.f3[i].f2 u.f3[i].f3).bind fun z => if z = true then ashlarref03_same.l0 k ((i + 1 : Nat) : Int) t.f0 t.f1 t.f2 t.f3 u.f0 u.f1 u.f2 u.f3 else some false) (fun k => by rw [ashlarref03_same.l0, if_pos hp, if_pos hp0, if_pos hpu, rd_get hil, rd_get hiu, e2]) ?_
        refine Ev.bind hx ?_
        cases hs : sameT t.f3[i] u.f3[i] with
        | true => simpa using hn
        | false => simpa using Ev.now false
    rw [sameT_mk]
    by_cases h0 : t.f0 = u.f0
    · by_cases h1 : t.f1.toList = u.f1.toList
      · by_cases h2 : t.f2 = u.f2
        · by_cases h3 : t.f3.length = u.f3.length
          · have h3b : ((t.f3.length : Int) != (u.f3.length : Int)) = false := by simp [h3]
            have := loop h3 t.f3.length 0 (by omega)
            rw [List.drop_zero, List.drop_zero] at this
            refine Ev.step (f := fun k => ashlarref03_same.j0 k ((t.f3.length : Int) != (u.f3.length : Int)) t.f0 t.f1 t.f2 t.f3 u.f0 u.f1 u.f2 u.f3) (fun k => by rw [ashlarref03_same.f, if_pos h0, if_pos h1, if_pos h2]) ?_
            rw [h3b]
            refine Ev.step (f := fun k => ashlarref03_same.l0 k 0 t.f0 t.f1 t.f2 t.f3 u.f0 u.f1 u.f2 u.f3) (fun k => by rw [ashlarref03_same.j0, if_neg (by decide)]) ?_
            simpa [h0, h1, h2] using this
          · have h3b : ((t.f3.length : Int) != (u.f3.length : Int)) = true := by simp; omega
            refine Ev.step (f := fun k => ashlarref03_same.j0 k ((t.f3.length : Int) != (u.f3.length : Int)) t.f0 t.f1 t.f2 t.f3 u.f0 u.f1 u.f2 u.f3) (fun k => by rw [ashlarref03_same.f, if_pos h0, if_pos h1, if_pos h2]) ?_
            rw [h3b, sameL_len h3, Bool.and_false]
            exact no
        · refine Ev.step (f := fun k => ashlarref03_same.j0 k true t.f0 t.f1 t.f2 t.f3 u.f0 u.f1 u.f2 u.f3) (fun k => by rw [ashlarref03_same.f, if_pos h0, if_pos h1, if_neg h2]) ?_
          rw [decide_eq_false h2, Bool.and_false, Bool.false_and]
          exact no
      · refine Ev.step (f := fun k => ashlarref03_same.j0 k true t.f0 t.f1 t.f2 t.f3 u.f0 u.f1 u.f2 u.f3) (fun k => by rw [ashlarref03_same.f, if_pos h0, if_neg h1]) ?_
        rw [decide_eq_false h1, Bool.and_false, Bool.false_and, Bool.false_and]
        exact no
    · refine Ev.step (f := fun k => ashlarref03_same.j0 k true t.f0 t.f1 t.f2 t.f3 u.f0 u.f1 u.f2 u.f3) (fun k => by rw [ashlarref03_same.f, if_neg h0]) ?_
      rw [decide_eq_false h0, Bool.false_and, Bool.false_and, Bool.false_and]
      exact no

theorem deepT_is (t : S24) : deepT t 101 = min (tdeep t) 101 := deepT_min t 101 (by decide)
/-- Same. -/
theorem Same_ev (t u : S24) (ht : fine t) (hu : fine u) : Ev (fun k => ashlarref03_Same.f k t.f0 t.f1 t.f2 t.f3 u.f0 u.f1 u.f2 u.f3) (sameB t u) := by
  unfold ashlarref03_Same.f sameB
  rw [deepT_is, deepT_is]
  refine Ev.bind (Deep_ev t ht) ?_
  by_cases h1 : min (tdeep t) 101 ≤ 100
  · have h1' : ((min (tdeep t) 101 : Nat) : Int) ≤ 100 := by omega
    simp only [if_pos h1', decide_eq_true h1, Bool.true_and]
    refine Ev.bind (Deep_ev u hu) ?_
    by_cases h2 : min (tdeep u) 101 ≤ 100
    · have h2' : ((min (tdeep u) 101 : Nat) : Int) ≤ 100 := by omega
      simp only [if_pos h2', decide_eq_true h2, Bool.true_and]
      exact Ev.bind (ref_same_ev (tsize t) t u (Nat.le_refl _) ht) (Ev.now _)
    · have h2' : ¬ ((min (tdeep u) 101 : Nat) : Int) ≤ 100 := by omega
      simp only [if_neg h2', decide_eq_false h2, Bool.false_and]
      exact Ev.now _
  · have h1' : ¬ ((min (tdeep t) 101 : Nat) : Int) ≤ 100 := by omega
    simp only [if_neg h1', decide_eq_false h1, Bool.false_and]
    exact Ev.now _

/-- left. -/
theorem left_ev : ∀ (s : Nat) (t : S24), tsize t ≤ s → fine t → ∀ (n : Nat), n ≤ 100000 → Ev (fun k => ashlarref03_left.f k t.f0 t.f1 t.f2 t.f3 (n : Int)) ((n - tsize t : Nat) : Int) := by
  intro s
  induction s with
  | zero => intro t ht; rw [tsize_mk] at ht; omega
  | succ s ih =>
    intro t ht hf n hn
    rw [fine_mk] at hf
    have hts := tsize_mk t
    cases n with
    | zero =>
      rw [Nat.zero_sub]
      exact Ev.step (f := fun _ => some (0 : Int)) (fun k => by rw [ashlarref03_left.f, if_pos (by rfl)]) (Ev.now _)
    | succ n =>
      have loop : ∀ (d i m : Nat), i + d = t.f3.length → m ≤ 100000 → Ev (fun k => ashlarref03_left.l0 k (m : Int) (i : Int) t.f0 t.f1 t.f2 t.f3) ((m - lsize (t.f3.drop i) : Nat) : Int) := by
        intro d
        induction d with
        | zero =>
          intro i m hi hm
          have hx : ¬ ((i : Int) < (t.f3.length : Int)) := by omega
          rw [List.drop_of_length_le (by omega), lsize, Nat.sub_zero]
          exact Ev.step (f := fun _ => some (m : Int)) (fun k => by rw [ashlarref03_left.l0, if_neg hx]) (Ev.now _)
        | succ d ihd =>
          intro i m hi hm
          have hil : i < t.f3.length := by omega
          have hp : (i : Int) < (t.f3.length : Int) := by omega
          have hp0 : (0 : Int) ≤ (i : Int) := Int.natCast_nonneg i
          have e2 : wrap64 ((i : Int) + 1) = ((i + 1 : Nat) : Int) := wrapj (by omega)
          have hsz := lsize_mem (List.getElem_mem hil)
          rw [List.drop_eq_getElem_cons hil, lsize]
          by_cases hm0 : 0 < m
          · have hmp : (m : Int) > 0 := by omega
            have hx := ih t.f3[i] (by omega) (fineL_get hf.2 hil) m hm
            have hn2 := ihd (i + 1) (m - tsize t.f3[i]) (by omega) (by omega)
            rw [Nat.sub_add_eq]
            exact Ev.step (f := fun k => (ashlarref03_left.f k t.f3[i].f0 t.f3[i].f1 t.f3[i].f2 t.f3[i].f3 (m : Int)).bind fun z => ashlarref03_left.l0 k z ((i + 1 : Nat) : Int) t.f0 t.f1 t.f2 t.f3) (fun k => by rw [ashlarref03_left.l0, if_pos hp, if_pos hmp, if_pos hp0, rd_get hil, e2]) (Ev.bind hx hn2)
          · have hmz : m = 0 := by omega
            subst hmz
            rw [Nat.zero_sub]
            exact Ev.step (f := fun _ => some (0 : Int)) (fun k => by rw [ashlarref03_left.l0, if_pos hp, if_neg (by decide)]; rfl) (Ev.now _)
      have h1 := loop t.f3.length 0 n (by omega) (by omega)
      rw [List.drop_zero] at h1
      have hne : ¬ (((n + 1 : Nat) : Int) = 0) := by omega
      have e1 : wrap64 (((n + 1 : Nat) : Int) - 1) = (n : Int) := (w_small (by omega) (by omega)).trans (by omega)
      have er : n + 1 - tsize t = n - lsize t.f3 := by omega
      rw [er]
      exact Ev.step (f := fun k => ashlarref03_left.l0 k (n : Int) 0 t.f0 t.f1 t.f2 t.f3) (fun k => by rw [ashlarref03_left.f, if_neg hne, e1]) h1
theorem Size_ev (t : S24) (hf : fine t) : Ev (fun k => ashlarref03_Size.f k t.f0 t.f1 t.f2 t.f3) ((min (tsize t) 2001 : Nat) : Int) := by
  unfold ashlarref03_Size.f
  refine Ev.bind (left_ev (tsize t) t (Nat.le_refl _) hf 2001 (by decide)) ?_
  have e1 : wrap64 ((2001 : Int) - ((2001 - tsize t : Nat) : Int)) = ((min (tsize t) 2001 : Nat) : Int) := (w_small (by omega) (by omega)).trans (by omega)
  simp only [e1]
  exact Ev.now _
end Go.Proofs.YthckboogibhjaaaDoor.Trm
