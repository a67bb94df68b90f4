/- Plain: a formula's atoms, and where its variables stand. -/
import Derived.Test.YthckboogibhjaaaDoorTrmTw
namespace Go.Proofs.YthckboogibhjaaaDoor.Trm
set_option linter.unusedVariables false
set_option linter.unusedSimpArgs false
open Go.RowKit Go.Proofs.YthckboogibhjaaaDoorW.PrintWords

/-! Atoms are right, and join nothing. -/
theorem join_wants : ∀ op, op < 22 → 16 ≤ op → ∀ i, i < 2 → ((shp op).many = true ∨ i < (shp op).a.length) → (shp op).a.getD (if (shp op).many = true then 0 else i) 0 = 4 := by decide
theorem join_many : ∀ op, op < 22 → 16 ≤ op → (shp op).many = true → (shp op).a.getD 0 0 = 4 := by decide
theorem join_parts {op : Int} {nm : ByteArray} {n : Int} {l : List S24} {want : Int} (h : rightT ⟨op, nm, n, l⟩ want = true) (hj : joinsB op = true) :
    rightL l (shp op.toNat) 0 = true ∧ ∀ j, j < l.length → (shp op.toNat).a.getD (if (shp op.toNat).many = true then 0 else j) 0 = 4 := by
  unfold joinsB at hj
  simp only [Bool.and_eq_true, decide_eq_true_eq] at hj
  rw [rightT, if_neg (by omega), Bool.and_eq_true] at h
  refine ⟨h.2, fun j hlt => ?_⟩
  cases hm : (shp op.toNat).many
  · have hl := ok_len h.1 hm
    have h2 := shp_len (i := op.toNat) (by omega)
    have := join_wants op.toNat (by omega) (by omega) j (by omega) (.inr (by omega))
    rw [hm] at this
    exact this
  · simp only [if_true]
    exact join_many op.toNat (by omega) (by omega) hm
mutual
theorem each_right : ∀ (t : S24) (s : List S24), rightT t 4 = true → ∀ x, x ∈ eachT atomF t s → x ∈ s ∨ (joinsB x.f0 = false ∧ rightT x 4 = true)
  | ⟨op, nm, n, l⟩, s, hr, x, hx => by
    rw [eachT] at hx
    by_cases hj : joinsB op = true
    · have e : atomF s ⟨op, nm, n, l⟩ = s := by unfold atomF; rw [if_pos hj]
      rw [if_pos hj, e] at hx
      obtain ⟨h1, h2⟩ := join_parts hr hj
      exact eachL_right l s (shp op.toNat) 0 h1 (fun j hlt => by rw [Nat.zero_add]; exact h2 j hlt) x hx
    · rw [if_neg hj] at hx
      unfold atomF at hx
      rw [if_neg hj] at hx
      split at hx
      · rcases List.mem_append.1 hx with h | h
        · exact .inl h
        · rw [List.mem_singleton.1 h]
          exact .inr ⟨by simpa using hj, hr⟩
      · exact .inl hx
theorem eachL_right : ∀ (l : List S24) (s : List S24) (sh : Shp) (i : Nat), rightL l sh i = true → (∀ j, j < l.length → sh.a.getD (if sh.many = true then 0 else i + j) 0 = 4) → ∀ x, x ∈ eachL atomF l s → x ∈ s ∨ (joinsB x.f0 = false ∧ rightT x 4 = true)
  | [], s, sh, i, hr, hw, x, hx => by rw [eachL] at hx; exact .inl hx
  | y :: l, s, sh, i, hr, hw, x, hx => by
    rw [eachL] at hx
    rw [rightL, Bool.and_eq_true] at hr
    have h0 := hw 0 (by simp)
    rw [Nat.add_zero] at h0
    rw [h0] at hr
    rcases eachL_right l (eachT atomF y s) sh (i + 1) hr.2 (fun j hj => by have := hw (j + 1) (by simp; omega); rw [show i + (j + 1) = i + 1 + j by omega] at this; exact this) x hx with h | h
    · exact each_right y s hr.1 x h
    · exact .inr h
end

/-! Atoms are all unlike. -/
theorem findT_keep (x : S24) (l : List S24) : ∀ (s : List S24) (j : Nat), 0 ≤ findT s x j → findT (s ++ l) x j = findT s x j
  | [], j, h => by rw [findT] at h; omega
  | y :: s, j, h => by
    rw [findT] at h
    rw [List.cons_append, findT, findT]
    by_cases hs : sameB y x = true
    · rw [if_pos hs, if_pos hs]
    · rw [if_neg hs] at h
      rw [if_neg hs, if_neg hs]
      exact findT_keep x l s (j + 1) h
theorem findT_last (x : S24) (hx : sameB x x = true) : ∀ (s : List S24) (j : Nat), findT s x j < 0 → findT (s ++ [x]) x j = ((j + s.length : Nat) : Int)
  | [], j, _ => by rw [List.nil_append, findT, if_pos hx]; rfl
  | y :: s, j, h => by
    rw [findT] at h
    rw [List.cons_append, findT]
    by_cases hs : sameB y x = true
    · rw [if_pos hs] at h; omega
    · rw [if_neg hs] at h ⊢
      rw [findT_last x hx s (j + 1) h, List.length_cons]
      congr 1; omega
theorem findT_lt (x : S24) : ∀ (s : List S24) (j : Nat), findT s x j < ((j + s.length : Nat) : Int)
  | [], j => by rw [findT]; omega
  | y :: s, j => by
    rw [findT]
    split
    · rw [List.length_cons]; omega
    · have := findT_lt x s (j + 1); rw [List.length_cons]; omega
def Unlike (s : List S24) : Prop := ∀ i (h : i < s.length), findT s s[i] 0 = (i : Int)
theorem Unlike.snoc {s : List S24} (hu : Unlike s) {x : S24} (hx : sameB x x = true) (hf : findT s x 0 < 0) : Unlike (s ++ [x]) := by
  intro i h
  rw [List.length_append, List.length_singleton] at h
  by_cases hi : i < s.length
  · rw [List.getElem_append_left hi, findT_keep _ _ _ _ (by rw [hu i hi]; omega), hu i hi]
  · have e : i = s.length := by omega
    subst e
    rw [List.getElem_append_right (Nat.le_refl _)]
    simp only [Nat.sub_self, List.getElem_cons_zero]
    rw [findT_last x hx s 0 hf, Nat.zero_add]
mutual
theorem each_unlike : ∀ (t : S24) (s : List S24), tdeep t ≤ 100 → Unlike s → Unlike (eachT atomF t s)
  | ⟨op, nm, n, l⟩, s, hd, hu => by
    rw [eachT]
    by_cases hj : joinsB op = true
    · have e : atomF s ⟨op, nm, n, l⟩ = s := by unfold atomF; rw [if_pos hj]
      rw [if_pos hj, e]
      rw [tdeep] at hd
      exact eachL_unlike l s (by omega) hu
    · rw [if_neg hj]
      unfold atomF
      rw [if_neg hj]
      split
      · rename_i hf; exact hu.snoc (sameB_refl hd) hf
      · exact hu
theorem eachL_unlike : ∀ (l : List S24) (s : List S24), ldeep l ≤ 100 → Unlike s → Unlike (eachL atomF l s)
  | [], s, hd, hu => by rw [eachL]; exact hu
  | y :: l, s, hd, hu => by
    rw [ldeep] at hd
    rw [eachL]
    exact eachL_unlike l _ (by omega) (each_unlike y s (by omega) hu)
end

/-! Each atom is a leaf. -/
mutual
def leafT (x : S24) : S24 → Prop
  | ⟨op, nm, n, l⟩ => if joinsB op = true then leafL x l else x = ⟨op, nm, n, l⟩
def leafL (x : S24) : List S24 → Prop
  | [] => False
  | y :: l => leafT x y ∨ leafL x l
end
mutual
theorem each_leaf : ∀ (t : S24) (s : List S24) (x : S24), x ∈ eachT atomF t s → x ∈ s ∨ leafT x t
  | ⟨op, nm, n, l⟩, s, x, hx => by
    rw [eachT] at hx
    rw [leafT]
    by_cases hj : joinsB op = true
    · have e : atomF s ⟨op, nm, n, l⟩ = s := by unfold atomF; rw [if_pos hj]
      rw [if_pos hj, e] at hx
      rw [if_pos hj]
      exact eachL_leaf l s x hx
    · rw [if_neg hj] at hx ⊢
      unfold atomF at hx
      rw [if_neg hj] at hx
      split at hx
      · rcases List.mem_append.1 hx with h | h
        · exact .inl h
        · exact .inr (List.mem_singleton.1 h)
      · exact .inl hx
theorem eachL_leaf : ∀ (l : List S24) (s : List S24) (x : S24), x ∈ eachL atomF l s → x ∈ s ∨ leafL x l
  | [], s, x, hx => by rw [eachL] at hx; exact .inl hx
  | y :: l, s, x, hx => by
    rw [eachL] at hx
    rw [leafL]
    rcases eachL_leaf l _ x hx with h | h
    · rcases each_leaf y s x h with h | h
      · exact .inl h
      · exact .inr (.inl h)
    · exact .inr (.inr h)
end

/-! What a join's own clauses hold. -/
def Has (u : Nat) (ys : List Int) : Prop := ∃ y, y ∈ ys ∧ y.natAbs = u
theorem Has.cons {u : Nat} {y : Int} {ys : List Int} : Has u (y :: ys) ↔ y.natAbs = u ∨ Has u ys := by
  unfold Has; simp
theorem Has.app {u : Nat} {xs ys : List Int} : Has u (xs ++ ys) ↔ Has u xs ∨ Has u ys := by
  unfold Has
  constructor
  · rintro ⟨y, h, e⟩
    rcases List.mem_append.1 h with h | h
    · exact .inl ⟨y, h, e⟩
    · exact .inr ⟨y, h, e⟩
  · rintro (⟨y, h, e⟩ | ⟨y, h, e⟩)
    · exact ⟨y, List.mem_append.2 (.inl h), e⟩
    · exact ⟨y, List.mem_append.2 (.inr h), e⟩
theorem has_neg {u : Nat} {l : List Int} : Has u (l.map fun n => -n) ↔ Has u l := by
  unfold Has
  constructor
  · rintro ⟨y, h, e⟩
    obtain ⟨z, hz, rfl⟩ := List.mem_map.1 h
    exact ⟨z, hz, by rw [← e, Int.natAbs_neg]⟩
  · rintro ⟨y, h, e⟩
    exact ⟨-y, List.mem_map.2 ⟨y, h, rfl⟩, by rw [Int.natAbs_neg, e]⟩
theorem has_pairs {u : Nat} {h : Int} {l : List Int} : Has u (l.map fun n => [h, n]).flatten ↔ (l ≠ [] ∧ h.natAbs = u) ∨ Has u l := by
  induction l with
  | nil => simp [Has]
  | cons a l ih =>
    rw [List.map_cons, List.flatten_cons, Has.app, ih, Has.cons, Has.cons, Has.cons]
    constructor
    · rintro ((h1 | h1 | h1) | h1 | h1)
      · exact .inl ⟨by simp, h1⟩
      · exact .inr (.inl h1)
      · exact absurd h1 (by simp [Has])
      · exact .inl ⟨by simp, h1.2⟩
      · exact .inr (.inr h1)
    · rintro (h1 | h1 | h1)
      · exact .inl (.inl h1.2)
      · exact .inl (.inr (.inl h1))
      · exact .inr (.inr h1)
theorem has_one {u : Nat} {c : List Int} : Has u [c].flatten ↔ Has u c := by simp
theorem has_or {u : Nat} {h : Int} {l : List Int} : Has u (orC h l []).flatten ↔ h.natAbs = u ∨ Has u l := by
  unfold orC
  rw [List.nil_append, List.flatten_append, Has.app, has_pairs, has_one, Has.cons, has_neg, Int.natAbs_neg]
  constructor
  · rintro ((h1 | h1) | h1 | h1)
    · exact .inl h1.2
    · exact .inr h1
    · exact .inl h1
    · exact .inr h1
  · rintro (h1 | h1)
    · exact .inr (.inl h1)
    · exact .inr (.inr h1)
theorem has_and {u : Nat} {h : Int} {l : List Int} : Has u (andC h l []).flatten ↔ h.natAbs = u ∨ Has u l := by
  unfold andC
  rw [List.nil_append, List.flatten_append, Has.app, has_pairs, has_one, Has.cons, has_neg, Int.natAbs_neg]
  constructor
  · rintro ((h1 | h1) | h1 | h1)
    · exact .inl h1.2
    · exact .inr h1
    · exact .inl h1
    · exact .inr h1
  · rintro (h1 | h1)
    · exact .inr (.inl h1)
    · exact .inr (.inr h1)
theorem has_set {u : Nat} {l : List Int} : Has u (l.set 0 (-(l.headD 0))) ↔ Has u l := by
  cases l with
  | nil => simp
  | cons a l => simp only [List.set_cons_zero, List.headD_cons, Has.cons, Int.natAbs_neg]
theorem has_add {u : Nat} {op h : Int} {l : List Int} (hl : op = 16 ∨ op = 17 → l = []) : Has u (addC op h l []).flatten ↔ h.natAbs = u ∨ Has u l := by
  unfold addC
  split
  · rename_i e; rw [hl (.inl e)]; simp [Has]
  · split
    · rename_i e; rw [hl (.inr e)]; simp [Has]
    · split
      · exact has_and
      · split
        · rw [has_or, has_set]
        · exact has_or

/-! Literals and clauses of a term have its leaves' and its helpers' variables, and no others. -/
theorem litL_len (ats : List S24) : ∀ (l : List S24) (v : Int) (c : List (List Int)), (litL ats l v c).1.length = l.length
  | [], v, c => by rw [litL]; rfl
  | x :: l, v, c => by rw [litL, List.length_cons, List.length_cons, litL_len ats l]
theorem lit_leaf (ats : List S24) (t : S24) (v : Int) (h : joinsB t.f0 = false) : litT ats t v [] = (findT ats t 0 + 1, v, []) := by
  rw [litT_mk, if_neg (by rw [h]; decide)]
mutual
theorem vars_of (ats : List S24) : ∀ (t : S24) (want : Int), rightT t want = true → allF ats t → ∀ (v : Nat), ats.length ≤ v →
    (litT ats t (v : Int) []).2.1 = ((v + hT t : Nat) : Int) ∧
    ∀ u, (Has u ((litT ats t (v : Int) []).1 :: (litT ats t (v : Int) []).2.2.flatten) ↔ (v < u ∧ u ≤ v + hT t) ∨ ∃ x, leafT x t ∧ u = (findT ats x 0 + 1).natAbs)
  | ⟨op, nm, n, l⟩, want, hr, hf, v, hv => by
    rw [litT, hT, allF] at *
    by_cases hj : joinsB op = true
    · rw [if_pos hj] at hf
      rw [if_pos hj, if_pos hj]
      obtain ⟨h1, -⟩ := join_parts hr hj
      have hl := leaf_none hr
      obtain ⟨e1, e2⟩ := varsL_of ats l (shp op.toNat) 0 h1 hf v hv
      have el : (litL ats l (v : Int) []).1.length = l.length := litL_len ats l v []
      simp only [leafT, if_pos hj]
      by_cases h18 : op = 18
      · rw [if_pos h18, if_pos h18]
        subst h18
        have h2 : l.length = 1 := by
          rw [rightT, if_neg (by decide), Bool.and_eq_true] at hr
          exact ok_len hr.1 rfl
        refine ⟨by rw [e1]; congr 1; omega, fun u => ?_⟩
        rw [Nat.zero_add, ← e2 u]
        generalize litL ats l (v : Int) [] = p at *
        obtain ⟨ls, v', N⟩ := p
        simp only at el ⊢
        obtain ⟨a, rfl⟩ : ∃ a, ls = [a] := List.length_eq_one_iff.1 (by omega)
        simp [Has.cons, Int.natAbs_neg]
      · rw [if_neg h18, if_neg h18]
        have hl' : op = 16 ∨ op = 17 → (litL ats l (v : Int) []).1 = [] := fun h => List.length_eq_zero_iff.1 (by rw [el]; exact hl h)
        refine ⟨by simp only [e1]; omega, fun u => ?_⟩
        simp only [e1]
        rw [addC_app, List.flatten_append, Has.cons, Has.app, has_add hl']
        have := e2 u
        rw [Has.app] at this
        have en : (((v + hL l : Nat) : Int) + 1).natAbs = v + hL l + 1 := by omega
        rw [en]
        constructor
        · rintro (h | h | h | h)
          · exact .inl ⟨by omega, by omega⟩
          · rcases this.1 (.inr h) with h | h
            · exact .inl ⟨h.1, by omega⟩
            · exact .inr h
          · exact .inl ⟨by omega, by omega⟩
          · rcases this.1 (.inl h) with h | h
            · exact .inl ⟨h.1, by omega⟩
            · exact .inr h
        · rintro (h | h)
          · by_cases hu : u = v + hL l + 1
            · exact .inl hu.symm
            · rcases this.2 (.inl ⟨h.1, by omega⟩) with h | h
              · exact .inr (.inr (.inr h))
              · exact .inr (.inl h)
          · rcases this.2 (.inr h) with h | h
            · exact .inr (.inr (.inr h))
            · exact .inr (.inl h)
    · rw [if_neg hj, if_neg hj]
      refine ⟨rfl, fun u => ?_⟩
      simp only [leafT, if_neg hj, List.flatten_nil]
      rw [Has.cons]
      constructor
      · rintro (h | h)
        · exact .inr ⟨_, rfl, h.symm⟩
        · exact absurd h (by simp [Has])
      · rintro (h | ⟨x, rfl, h⟩)
        · omega
        · exact .inl h.symm
theorem varsL_of (ats : List S24) : ∀ (l : List S24) (s : Shp) (i : Nat), rightL l s i = true → allFL ats l → ∀ (v : Nat), ats.length ≤ v →
    (litL ats l (v : Int) []).2.1 = ((v + hL l : Nat) : Int) ∧
    ∀ u, (Has u ((litL ats l (v : Int) []).1 ++ (litL ats l (v : Int) []).2.2.flatten) ↔ (v < u ∧ u ≤ v + hL l) ∨ ∃ x, leafL x l ∧ u = (findT ats x 0 + 1).natAbs)
  | [], s, i, hr, hf, v, hv => by
    rw [litL, hL]
    refine ⟨rfl, fun u => ?_⟩
    simp only [leafL]
    constructor
    · intro h; exact absurd h (by simp [Has])
    · rintro (h | ⟨x, h, -⟩)
      · omega
      · exact h.elim
  | y :: l, s, i, hr, hf, v, hv => by
    rw [rightL, Bool.and_eq_true] at hr
    rw [allFL] at hf
    obtain ⟨a1, a2⟩ := vars_of ats y _ hr.1 hf.1 v hv
    obtain ⟨b1, b2⟩ := varsL_of ats l s (i + 1) hr.2 hf.2 (v + hT y) (by omega)
    rw [litL, hL]
    rw [a1]
    have happ := litL_app ats l ((v + hT y : Nat) : Int) (litT ats y (v : Int) []).2.2
    rw [happ.1, happ.2.1, happ.2.2]
    refine ⟨by rw [b1]; congr 1; omega, fun u => ?_⟩
    have h1 := a2 u
    have h2 := b2 u
    rw [Has.cons] at h1
    rw [Has.app] at h2
    simp only [leafL]
    rw [List.flatten_append, Has.app, Has.cons, Has.app]
    constructor
    · rintro ((h | h) | h | h)
      · rcases h1.1 (.inl h) with k | ⟨x, k1, k2⟩
        · exact .inl ⟨k.1, by omega⟩
        · exact .inr ⟨x, .inl k1, k2⟩
      · rcases h2.1 (.inl h) with k | ⟨x, k1, k2⟩
        · exact .inl ⟨by omega, by omega⟩
        · exact .inr ⟨x, .inr k1, k2⟩
      · rcases h1.1 (.inr h) with k | ⟨x, k1, k2⟩
        · exact .inl ⟨k.1, by omega⟩
        · exact .inr ⟨x, .inl k1, k2⟩
      · rcases h2.1 (.inr h) with k | ⟨x, k1, k2⟩
        · exact .inl ⟨by omega, by omega⟩
        · exact .inr ⟨x, .inr k1, k2⟩
    · rintro (h | ⟨x, k1 | k1, k2⟩)
      · by_cases hu : u ≤ v + hT y
        · rcases h1.2 (.inl ⟨h.1, hu⟩) with h | h
          · exact .inl (.inl h)
          · exact .inr (.inl h)
        · rcases h2.2 (.inl ⟨by omega, by omega⟩) with h | h
          · exact .inl (.inr h)
          · exact .inr (.inr h)
      · rcases h1.2 (.inr ⟨x, k1, k2⟩) with h | h
        · exact .inl (.inl h)
        · exact .inr (.inl h)
      · rcases h2.2 (.inr ⟨x, k1, k2⟩) with h | h
        · exact .inl (.inr h)
        · exact .inr (.inr h)
end
mutual
theorem allF_leaf (s : List S24) : ∀ (t : S24), allF s t → ∀ x, leafT x t → 0 ≤ findT s x 0
  | ⟨op, nm, n, l⟩, hf, x, hx => by
    rw [allF] at hf
    rw [leafT] at hx
    by_cases hj : joinsB op = true
    · rw [if_pos hj] at hf hx; exact allFL_leaf s l hf x hx
    · rw [if_neg hj] at hf hx; rw [hx]; exact hf
theorem allFL_leaf (s : List S24) : ∀ (l : List S24), allFL s l → ∀ x, leafL x l → 0 ≤ findT s x 0
  | [], hf, x, hx => by rw [leafL] at hx; exact hx.elim
  | y :: l, hf, x, hx => by
    rw [allFL] at hf
    rw [leafL] at hx
    rcases hx with hx | hx
    · exact allF_leaf s y hf.1 x hx
    · exact allFL_leaf s l hf.2 x hx
end

/-- The whole of it. -/
theorem all_vars (t : S24) (hr : rightT t 4 = true) (hd : tdeep t ≤ 100) :
    (litT (atomsT t) t (atomsT t).length []).2.1 = (((atomsT t).length + hT t : Nat) : Int) ∧
    ∀ u, Has u ((litT (atomsT t) t (atomsT t).length []).2.2 ++ [[(litT (atomsT t) t (atomsT t).length []).1]]).flatten ↔ 1 ≤ u ∧ u ≤ (atomsT t).length + hT t := by
  have hfound := each_found t [] hd
  obtain ⟨e1, e2⟩ := vars_of (atomsT t) t 4 hr hfound.1 (atomsT t).length (Nat.le_refl _)
  refine ⟨e1, fun u => ?_⟩
  have h := e2 u
  rw [Has.cons] at h
  rw [List.flatten_append, Has.app, has_one, Has.cons]
  have hun : Unlike (atomsT t) := each_unlike t [] hd (fun i h => absurd h (by simp))
  constructor
  · intro k
    have : (litT (atomsT t) t (atomsT t).length []).1.natAbs = u ∨ Has u (litT (atomsT t) t (atomsT t).length []).2.2.flatten := by
      rcases k with k | k | k
      · exact .inr k
      · exact .inl k
      · exact absurd k (by simp [Has])
    rcases h.1 this with k | ⟨x, k1, k2⟩
    · exact ⟨by omega, k.2⟩
    · have h1 : 0 ≤ findT (atomsT t) x 0 := allF_leaf _ t hfound.1 x k1
      have h2 := findT_lt x (atomsT t) 0
      exact ⟨by omega, by omega⟩
  · rintro ⟨k1, k2⟩
    have : (litT (atomsT t) t (atomsT t).length []).1.natAbs = u ∨ Has u (litT (atomsT t) t (atomsT t).length []).2.2.flatten := by
      apply h.2
      by_cases hu : (atomsT t).length < u
      · exact .inl ⟨hu, k2⟩
      · have hlt : u - 1 < (atomsT t).length := by omega
        refine .inr ⟨(atomsT t)[u - 1], ?_, ?_⟩
        · rcases each_leaf t [] _ (List.getElem_mem hlt) with h | h
          · exact absurd h (by simp)
          · exact h
        · rw [hun (u - 1) hlt]; omega
    rcases this with k | k
    · exact .inr (.inl k)
    · exact .inl k
end Go.Proofs.YthckboogibhjaaaDoor.Trm
