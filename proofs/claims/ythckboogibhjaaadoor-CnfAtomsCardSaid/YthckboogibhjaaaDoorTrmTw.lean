/- Plain law of CnfTwice. -/
import Derived.Test.YthckboogibhjaaaDoorTrmRg
import Derived.Test.YthckboogibhjaaaDoorTrmNot
namespace Go.Proofs.YthckboogibhjaaaDoor.Trm
set_option linter.unusedVariables false
set_option linter.unusedSimpArgs false
open Go.RowKit Go.Proofs.YthckboogibhjaaaDoorW.PrintWords

mutual
theorem sameT_refl : ∀ (t : S24), sameT t t = true
  | ⟨op, nm, n, l⟩ => by rw [sameT, sameL_refl l]; simp
theorem sameL_refl : ∀ (l : List S24), sameL l l = true
  | [] => by rw [sameL]
  | x :: l => by rw [sameL, sameT_refl x, sameL_refl l]; rfl
end
theorem sameB_refl {t : S24} (h : tdeep t ≤ 100) : sameB t t = true := by
  unfold sameB
  rw [deepT_is, sameT_refl, decide_eq_true (by omega : min (tdeep t) 101 ≤ 100)]; rfl

/-! Atoms: those that are found are not laid again. -/
theorem findT_app (x : S24) (l : List S24) : ∀ (s : List S24) (j : Nat), 0 ≤ findT s x j → 0 ≤ findT (s ++ l) x j
  | [], j, h => by rw [findT] at h; omega
  | y :: s, j, h => by
    rw [findT] at h
    rw [List.cons_append, findT]
    by_cases hs : sameB y x = true
    · rw [if_pos hs]; omega
    · rw [if_neg hs] at h ⊢
      exact findT_app x l s (j + 1) h
theorem findT_self (x : S24) (hx : sameB x x = true) : ∀ (s : List S24) (j : Nat), 0 ≤ findT (s ++ [x]) x j
  | [], j => by rw [List.nil_append, findT, if_pos hx]; omega
  | y :: s, j => by
    rw [List.cons_append, findT]
    by_cases hs : sameB y x = true
    · rw [if_pos hs]; omega
    · rw [if_neg hs]; exact findT_self x hx s (j + 1)
mutual
/-- All atoms of a term are found. -/
def allF (s : List S24) : S24 → Prop
  | ⟨op, nm, n, l⟩ => if joinsB op = true then allFL s l else 0 ≤ findT s ⟨op, nm, n, l⟩ 0
def allFL (s : List S24) : List S24 → Prop
  | [] => True
  | x :: l => allF s x ∧ allFL s l
end
mutual
theorem allF_app {s : List S24} (l' : List S24) : ∀ (t : S24), allF s t → allF (s ++ l') t
  | ⟨op, nm, n, l⟩, h => by
    rw [allF] at h ⊢
    split
    · rename_i hj; rw [if_pos hj] at h; exact allFL_app l' l h
    · rename_i hj; rw [if_neg hj] at h; exact findT_app _ _ _ _ h
theorem allFL_app {s : List S24} (l' : List S24) : ∀ (l : List S24), allFL s l → allFL (s ++ l') l
  | [], h => by rw [allFL]; trivial
  | x :: l, h => by
    rw [allFL] at h ⊢
    exact ⟨allF_app l' x h.1, allFL_app l' l h.2⟩
end
mutual
theorem each_found : ∀ (t : S24) (s : List S24), tdeep t ≤ 100 → allF (eachT atomF t s) t ∧ (∃ l', eachT atomF t s = s ++ l') ∧ ∀ x, x ∈ eachT atomF t s → x ∈ s ∨ (tdeep x ≤ tdeep t ∧ tsize x ≤ tsize t)
  | ⟨op, nm, n, l⟩, s, hd => by
    rw [tdeep] at hd
    rw [eachT, allF]
    by_cases hj : joinsB op = true
    · rw [if_pos hj, if_pos hj]
      have e : atomF s ⟨op, nm, n, l⟩ = s := by unfold atomF; rw [if_pos hj]
      rw [e]
      have ih := eachL_found l s (by omega)
      refine ⟨ih.1, ih.2.1, fun x hx => ?_⟩
      rcases ih.2.2 x hx with h | h
      · exact .inl h
      · exact .inr (by rw [tdeep, tsize]; omega)
    · rw [if_neg hj, if_neg hj]
      unfold atomF
      rw [if_neg hj]
      by_cases hf : findT s ⟨op, nm, n, l⟩ 0 < 0
      · rw [if_pos hf]
        refine ⟨findT_self _ (sameB_refl (by rw [tdeep]; exact hd)) s 0, ⟨_, rfl⟩, fun x hx => ?_⟩
        rcases List.mem_append.1 hx with h | h
        · exact .inl h
        · rw [List.mem_singleton.1 h]; exact .inr ⟨Nat.le_refl _, Nat.le_refl _⟩
      · rw [if_neg hf]
        exact ⟨by omega, ⟨[], by rw [List.append_nil]⟩, fun x hx => .inl hx⟩
theorem eachL_found : ∀ (l : List S24) (s : List S24), ldeep l ≤ 100 → allFL (eachL atomF l s) l ∧ (∃ l', eachL atomF l s = s ++ l') ∧ ∀ x, x ∈ eachL atomF l s → x ∈ s ∨ (tdeep x ≤ ldeep l ∧ tsize x ≤ lsize l)
  | [], s, _ => by rw [eachL, allFL]; exact ⟨trivial, ⟨[], by rw [List.append_nil]⟩, fun x hx => .inl hx⟩
  | y :: l, s, hd => by
    rw [ldeep] at hd
    rw [eachL, allFL]
    have h1 := each_found y s (by omega)
    have h2 := eachL_found l (eachT atomF y s) (by omega)
    obtain ⟨l1, e1⟩ := h1.2.1
    obtain ⟨l2, e2⟩ := h2.2.1
    refine ⟨⟨by rw [e2]; exact allF_app l2 y h1.1, h2.1⟩, ⟨l1 ++ l2, by rw [e2, e1, List.append_assoc]⟩, fun x hx => ?_⟩
    rcases h2.2.2 x hx with h | h
    · rcases h1.2.2 x h with h | h
      · exact .inl h
      · exact .inr (by rw [ldeep, lsize]; omega)
    · exact .inr (by rw [ldeep, lsize]; omega)
end
mutual
theorem each_same : ∀ (t : S24) (s : List S24), allF s t → eachT atomF t s = s
  | ⟨op, nm, n, l⟩, s, h => by
    rw [allF] at h
    rw [eachT]
    by_cases hj : joinsB op = true
    · rw [if_pos hj] at h ⊢
      have e : atomF s ⟨op, nm, n, l⟩ = s := by unfold atomF; rw [if_pos hj]
      rw [e]; exact eachL_same l s h
    · rw [if_neg hj] at h ⊢
      unfold atomF
      rw [if_neg hj, if_neg (by omega)]
theorem eachL_same : ∀ (l : List S24) (s : List S24), allFL s l → eachL atomF l s = s
  | [], s, h => by rw [eachL]
  | x :: l, s, h => by
    rw [allFL] at h
    rw [eachL, each_same x s h.1, eachL_same l s h.2]
end

/-! Clauses are laid behind what was there, and do not hang on it. -/
theorem addC_app (op h : Int) (l : List Int) (c : List (List Int)) : addC op h l c = c ++ addC op h l [] := by
  unfold addC orC andC
  repeat' split
  all_goals simp [List.append_assoc]
mutual
theorem lit_app (ats : List S24) : ∀ (t : S24) (v : Int) (c : List (List Int)), (litT ats t v c).1 = (litT ats t v []).1 ∧ (litT ats t v c).2.1 = (litT ats t v []).2.1 ∧ (litT ats t v c).2.2 = c ++ (litT ats t v []).2.2
  | ⟨op, nm, n, l⟩, v, c => by
    rw [litT, litT]
    have ih := litL_app ats l v c
    split
    · split
      · exact ⟨by rw [ih.1], ih.2.1, ih.2.2⟩
      · refine ⟨by simp only [ih.2.1], by simp only [ih.2.1], ?_⟩
        simp only
        rw [addC_app, addC_app op _ _ ((litL ats l v []).2.2), ih.1, ih.2.1, ih.2.2, List.append_assoc]
    · exact ⟨rfl, rfl, by simp⟩
theorem litL_app (ats : List S24) : ∀ (l : List S24) (v : Int) (c : List (List Int)), (litL ats l v c).1 = (litL ats l v []).1 ∧ (litL ats l v c).2.1 = (litL ats l v []).2.1 ∧ (litL ats l v c).2.2 = c ++ (litL ats l v []).2.2
  | [], v, c => by rw [litL, litL]; exact ⟨rfl, rfl, by simp⟩
  | x :: l, v, c => by
    rw [litL, litL]
    have h1 := lit_app ats x v c
    have h2 := litL_app ats l (litT ats x v []).2.1 (litT ats x v c).2.2
    have h3 := litL_app ats l (litT ats x v []).2.1 (litT ats x v []).2.2
    rw [h1.1, h1.2.1]
    refine ⟨by rw [h2.1, h3.1], by rw [h2.2.1, h3.2.1], ?_⟩
    rw [h2.2.2, h3.2.2, h1.2.2, List.append_assoc]
end

/-- And of a term and it. -/
def andT (t : S24) : S24 := ⟨19, ⟨#[]⟩, 0, [t, t]⟩
theorem twice_law (t : S24) (he : (clausesT t).2.2.2 = 0) (hz : tsize t ≤ 900) (hd : tdeep t ≤ 90) :
    ∃ (c1 c2 : List (List Int)) (ats : List S24) (n L k : Int), clausesT t = (c1 ++ [[L]], ats, n, 0) ∧ clausesT (andT t) = ((c1 ++ c2) ++ [[k]], ats, k, 0) ∧ c2.length = c1.length + 3 ∧ k = ats.length + (2 * (n - ats.length) + 1) ∧ (ats.length : Int) ≤ n ∧ n ≤ 5000 ∧ ats.length ≤ 2000 ∧ c1.length ≤ 10000 ∧ (∀ x, x ∈ c1 → x.length ≤ 1000000) ∧ ∀ x, x ∈ ats → sameB x x = true ∧ fine x := by
  obtain ⟨s0, s4, e⟩ := clauses_ok he
  obtain ⟨hs, hdd, hr⟩ := sort_small s0
  have hr4 : rightT t 4 = true := by
    rw [right_want (by decide), hr]
    unfold sortT at s4
    have hb : bigT t = false := by rw [bigT_is]; simp; omega
    rw [hb, if_neg (by decide), if_pos hr] at s4
    simp only at s4
    rw [s4]; rfl
  have hfound := each_found t [] (by omega)
  have hat : atomsT (andT t) = atomsT t := by
    unfold atomsT
    rw [eachT_joined (t := andT t) rfl]
    show eachL atomF [t, t] [] = _
    rw [eachL, eachL, eachL]
    exact each_same t _ hfound.1
  have hsort : (sortT (andT t)).2 = 0 ∧ (sortT (andT t)).1 = 4 := by
    have e1 : tsize (andT t) = 1 + (tsize t + tsize t) := by show tsize ⟨19, ⟨#[]⟩, 0, [t, t]⟩ = _; rw [tsize, lsize, lsize, lsize]; rfl
    have e2 : tdeep (andT t) = 1 + tdeep t := by show tdeep ⟨19, ⟨#[]⟩, 0, [t, t]⟩ = _; rw [tdeep, ldeep, ldeep, ldeep]; simp
    have hb : bigT (andT t) = false := by rw [bigT_is]; simp; omega
    have hra : rightT (andT t) 0 = true := by
      show rightT ⟨19, ⟨#[]⟩, 0, [t, t]⟩ 0 = true
      rw [rightT, if_neg (by decide), rightL, rightL, rightL]
      show (okHead (shp 19) ⟨#[]⟩ 0 2 0 && (rightT t 4 && (rightT t 4 && true))) = true
      rw [hr4]; decide +kernel
    unfold sortT
    rw [hb, if_neg (by decide), if_pos hra]
    exact ⟨rfl, rfl⟩
  have e2 : clausesT (andT t) = ((litT (atomsT t) (andT t) (atomsT t).length []).2.2 ++ [[(litT (atomsT t) (andT t) (atomsT t).length []).1]], atomsT t, (litT (atomsT t) (andT t) (atomsT t).length []).2.1, 0) := by
    unfold clausesT
    rw [if_pos hsort.1, if_pos hsort.2, hat]
  have hsz1 := lit_size (atomsT t) (tsize t) t (Nat.le_refl _) ⟨0, hr⟩ ((atomsT t).length : Int) [] (Int.le_refl _)
  have hle := litT_le (atomsT t) t ((atomsT t).length : Int) [] (Int.le_refl _)
  have hrow := litT_row (atomsT t) 1000000 t ((atomsT t).length : Int) [] (Int.le_refl _) (by omega) (by simp)
  have hal := atomsT_len t
  have hTle := T_le t
  have hsz2 := lit_size (atomsT t) (tsize t) t (Nat.le_refl _) ⟨0, hr⟩ (litT (atomsT t) t (atomsT t).length []).2.1 [] hle.1
  have happ := lit_app (atomsT t) t (litT (atomsT t) t (atomsT t).length []).2.1 (litT (atomsT t) t (atomsT t).length []).2.2
  have hand : litT (atomsT t) (andT t) (atomsT t).length [] = ((litT (atomsT t) t (litT (atomsT t) t (atomsT t).length []).2.1 []).2.1 + 1, (litT (atomsT t) t (litT (atomsT t) t (atomsT t).length []).2.1 []).2.1 + 1, addC 19 ((litT (atomsT t) t (litT (atomsT t) t (atomsT t).length []).2.1 []).2.1 + 1) [(litT (atomsT t) t (atomsT t).length []).1, (litT (atomsT t) t (litT (atomsT t) t (atomsT t).length []).2.1 []).1] ((litT (atomsT t) t (atomsT t).length []).2.2 ++ (litT (atomsT t) t (litT (atomsT t) t (atomsT t).length []).2.1 []).2.2)) := by
    have hl2 : litL (atomsT t) [t, t] (atomsT t).length [] = ([(litT (atomsT t) t (atomsT t).length []).1, (litT (atomsT t) t (litT (atomsT t) t (atomsT t).length []).2.1 []).1], (litT (atomsT t) t (litT (atomsT t) t (atomsT t).length []).2.1 []).2.1, (litT (atomsT t) t (atomsT t).length []).2.2 ++ (litT (atomsT t) t (litT (atomsT t) t (atomsT t).length []).2.1 []).2.2) := by
      rw [litL, litL, litL, happ.1, happ.2.1, happ.2.2]
    show litT (atomsT t) ⟨19, ⟨#[]⟩, 0, [t, t]⟩ _ _ = _
    rw [litT, if_pos (by decide), if_neg (by decide), hl2]
  rw [hand] at e2
  simp only at e2
  generalize hv : (litT (atomsT t) t (atomsT t).length []).2.1 = v1 at *
  generalize hc : (litT (atomsT t) t (atomsT t).length []).2.2 = c1 at *
  generalize hL : (litT (atomsT t) t (atomsT t).length []).1 = L1 at *
  generalize hv2 : (litT (atomsT t) t v1 []).2.1 = v2 at *
  generalize hc2 : (litT (atomsT t) t v1 []).2.2 = N at *
  generalize hL2 : (litT (atomsT t) t v1 []).1 = L2 at *
  have hlen1 : c1.length = cT t := by have := hsz1.2; simpa using this
  have hlen2 : N.length = cT t := by have := hsz2.2; simpa using this
  refine ⟨c1, N ++ [[-(v2 + 1), L1], [-(v2 + 1), L2]] ++ [[v2 + 1, -L1, -L2]], atomsT t, v1, L1, v2 + 1, e, ?_, ?_, ?_, by omega, by omega, by omega, by omega, hrow, fun x hx => ?_⟩
  · rw [e2, addC_19]
    simp [List.append_assoc]
  · simp [hlen1, hlen2]
  · have := hsz1.1; have := hsz2.1; omega
  · rcases hfound.2.2 x hx with h | h
    · cases h
    · exact ⟨sameB_refl (by omega), fine_small x (by omega)⟩
end Go.Proofs.YthckboogibhjaaaDoor.Trm
