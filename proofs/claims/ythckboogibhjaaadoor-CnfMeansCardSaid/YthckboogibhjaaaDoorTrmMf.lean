/- Plain: a term's clauses tell its helpers, and its literal means it. -/
import Derived.Test.YthckboogibhjaaaDoorTrmMe
namespace Go.Proofs.YthckboogibhjaaaDoor.Trm
set_option linter.unusedVariables false
set_option linter.unusedSimpArgs false
open Go.RowKit Go.Proofs.YthckboogibhjaaaDoorW.PrintWords

mutual
/-- Is a term true, of atoms that are so. -/
def truthT (ats : List S24) (bit : Nat → Bool) : S24 → Bool
  | ⟨op, nm, n, l⟩ => if joinsB op = true then (if op = 18 then !((truthL ats bit l).headD false) else opV op (truthL ats bit l)) else bit (findT ats ⟨op, nm, n, l⟩ 0).toNat
def truthL (ats : List S24) (bit : Nat → Bool) : List S24 → List Bool
  | [] => []
  | x :: l => truthT ats bit x :: truthL ats bit l
end
mutual
/-- What its helpers are, in the order in which they are made. -/
def valsT (ats : List S24) (bit : Nat → Bool) : S24 → List Bool
  | ⟨op, nm, n, l⟩ => if joinsB op = true then valsL ats bit l ++ (if op = 18 then [] else [opV op (truthL ats bit l)]) else []
def valsL (ats : List S24) (bit : Nat → Bool) : List S24 → List Bool
  | [] => []
  | x :: l => valsT ats bit x ++ valsL ats bit l
end
mutual
theorem vals_len (ats : List S24) (bit : Nat → Bool) : ∀ t : S24, (valsT ats bit t).length = hT t
  | ⟨op, nm, n, l⟩ => by
    rw [valsT, hT]
    split
    · rw [List.length_append, valsL_len ats bit l]
      split <;> simp <;> omega
    · rfl
theorem valsL_len (ats : List S24) (bit : Nat → Bool) : ∀ l : List S24, (valsL ats bit l).length = hL l
  | [] => by rw [valsL, hL]; rfl
  | x :: l => by rw [valsL, hL, List.length_append, vals_len ats bit x, valsL_len ats bit l]
end
theorem truthL_len (ats : List S24) (bit : Nat → Bool) : ∀ l : List S24, (truthL ats bit l).length = l.length
  | [] => by rw [truthL]; rfl
  | x :: l => by rw [truthL, List.length_cons, List.length_cons, truthL_len ats bit l]
/-- Variables are so, from v on. -/
def Run (A : Nat → Bool) (v : Nat) (xs : List Bool) : Prop := ∀ j (h : j < xs.length), A (v + 1 + j) = xs[j]
theorem Run.app {A : Nat → Bool} {v : Nat} {xs ys : List Bool} (h : Run A v (xs ++ ys)) : Run A v xs ∧ Run A (v + xs.length) ys := by
  refine ⟨fun j hj => ?_, fun j hj => ?_⟩
  · rw [h j (by rw [List.length_append]; omega), List.getElem_append_left hj]
  · have := h (xs.length + j) (by rw [List.length_append]; omega)
    rw [List.getElem_append_right (by omega)] at this
    rw [show v + xs.length + 1 + j = v + 1 + (xs.length + j) by omega, this]
    congr 1; omega

/-- A join's own clauses tell its helper, of literals below it. -/
theorem op_good (A : Nat → Bool) (op : Int) (h : Nat) (hh : 0 < h) (l : List Int) (h1 : 16 ≤ op) (h2 : op ≤ 21) (h18 : op ≠ 18) (hl : ∀ x, x ∈ l → x.natAbs < h ∧ x ≠ 0) (h21 : op = 21 → l.length = 2) (h16 : op = 16 ∨ op = 17 → l = []) (a : Nat → Bool) :
    (∀ c, c ∈ addC op (h : Int) l [] → ev a c = true) ↔ a h = opV op (l.map (lv a)) := by
  unfold addC opV
  by_cases e16 : op = 16
  · rw [if_pos e16, if_pos e16, List.nil_append]
    constructor
    · intro hc
      have := hc _ List.mem_cons_self
      rw [ev, List.any_cons, List.any_nil, Bool.or_false, lv_pos a hh] at this
      exact this
    · intro he c hc
      rw [List.mem_singleton.1 hc, ev, List.any_cons, List.any_nil, Bool.or_false, lv_pos a hh]; exact he
  rw [if_neg e16, if_neg e16]
  by_cases e17 : op = 17
  · rw [if_pos e17, if_pos e17, List.nil_append]
    constructor
    · intro hc
      have := hc _ List.mem_cons_self
      rw [ev, List.any_cons, List.any_nil, Bool.or_false, lv_negh a hh] at this
      simpa using this
    · intro he c hc
      rw [List.mem_singleton.1 hc, ev, List.any_cons, List.any_nil, Bool.or_false, lv_negh a hh, he]; rfl
  rw [if_neg e17, if_neg e17]
  by_cases e19 : op = 19
  · rw [if_pos e19, if_pos e19, and_good A h hh l hl a, List.all_map]; rfl
  rw [if_neg e19, if_neg e19]
  by_cases e21 : op = 21
  · rw [if_pos e21, if_pos e21]
    obtain ⟨x, y, rfl⟩ : ∃ x y, l = [x, y] := by
      have := h21 e21
      match l, this with
      | [x, y], _ => exact ⟨x, y, rfl⟩
    show (∀ c, c ∈ orC (h : Int) [-x, y] [] → ev a c = true) ↔ a h = (!(lv a x) || lv a y)
    have hx := hl x List.mem_cons_self
    have hy := hl y (List.mem_cons_of_mem _ List.mem_cons_self)
    rw [or_good A h hh [-x, y] (fun z hz => by
      rcases List.mem_cons.1 hz with rfl | hz
      · exact ⟨by omega, by omega⟩
      · rw [List.mem_singleton.1 hz]; exact hy) a, List.any_cons, List.any_cons, List.any_nil, Bool.or_false, lv_neg a hx.2]
  rw [if_neg e21, if_neg e21, or_good A h hh l hl a, List.any_map]; rfl

theorem mv_cons_ge {x : Int} {c : List Int} : x.natAbs ≤ mv (x :: c) := by rw [mv]; omega
/-- Each of a join's own clauses has its helper, and none above. -/
theorem op_mv (op : Int) (h : Nat) (l : List Int) (h18 : op ≠ 18) (hl : ∀ x, x ∈ l → x.natAbs < h ∧ x ≠ 0) (hh : 0 < h) : ∀ c, c ∈ addC op (h : Int) l [] → mv c = h := by
  have key : ∀ (c : List Int), (∃ x, x ∈ c ∧ x.natAbs = h) → (∀ x, x ∈ c → x.natAbs ≤ h) → mv c = h := fun c hx hc => by
    obtain ⟨x, hx, e⟩ := hx
    have := mv_mem hx
    have := mv_le hc
    omega
  have hor : ∀ (l : List Int), (∀ x, x ∈ l → x.natAbs < h) → ∀ c, c ∈ orC (h : Int) l [] → mv c = h := by
    intro l hl c hc
    unfold orC at hc
    rw [List.nil_append] at hc
    rcases List.mem_append.1 hc with hc | hc
    · obtain ⟨y, hy, rfl⟩ := List.mem_map.1 hc
      obtain ⟨x, hx, rfl⟩ := List.mem_map.1 hy
      have := hl x hx
      refine key _ ⟨(h : Int), List.mem_cons_self, by omega⟩ (fun z hz => ?_)
      rcases List.mem_cons.1 hz with rfl | hz
      · omega
      · rw [List.mem_singleton.1 hz]; omega
    · rw [List.mem_singleton.1 hc]
      refine key _ ⟨-(h : Int), List.mem_cons_self, by omega⟩ (fun z hz => ?_)
      rcases List.mem_cons.1 hz with rfl | hz
      · omega
      · have := hl z hz; omega
  intro c hc
  unfold addC at hc
  split at hc
  · rw [List.mem_singleton.1 hc]; exact key _ ⟨_, List.mem_cons_self, by omega⟩ (fun z hz => by rw [List.mem_singleton.1 hz]; omega)
  split at hc
  · rw [List.mem_singleton.1 hc]; exact key _ ⟨_, List.mem_cons_self, by omega⟩ (fun z hz => by rw [List.mem_singleton.1 hz]; omega)
  split at hc
  · unfold andC at hc
    rw [List.nil_append] at hc
    rcases List.mem_append.1 hc with hc | hc
    · obtain ⟨x, hx, rfl⟩ := List.mem_map.1 hc
      have := hl x hx
      refine key _ ⟨-(h : Int), List.mem_cons_self, by omega⟩ (fun z hz => ?_)
      rcases List.mem_cons.1 hz with rfl | hz
      · omega
      · rw [List.mem_singleton.1 hz]; omega
    · rw [List.mem_singleton.1 hc]
      refine key _ ⟨(h : Int), List.mem_cons_self, by omega⟩ (fun z hz => ?_)
      rcases List.mem_cons.1 hz with rfl | hz
      · omega
      · obtain ⟨x, hx, rfl⟩ := List.mem_map.1 hz
        have := hl x hx; omega
  split at hc
  · refine hor _ (fun x hx => ?_) c hc
    cases l with
    | nil => simp at hx
    | cons y l =>
      rw [List.set_cons_zero] at hx
      rcases List.mem_cons.1 hx with rfl | hx
      · have := hl y List.mem_cons_self
        simp only [List.headD_cons]; omega
      · exact (hl x (List.mem_cons_of_mem _ hx)).1
  · exact hor l (fun x hx => (hl x hx).1) c hc

theorem lit_natlen (l : List Int) (a A : Nat → Bool) {u : Nat} (h : ∀ i, i < u → a i = A i) (hl : ∀ x, x ∈ l → x.natAbs < u) : l.map (lv a) = l.map (lv A) :=
  List.map_congr_left fun x hx => lv_agree h (hl x hx)
/-- One join's step: its own clauses are good from the one before its helper on. -/
theorem op_step (A : Nat → Bool) (op : Int) (v1 : Nat) (l : List Int) (h1 : 16 ≤ op) (h2 : op ≤ 21) (h18 : op ≠ 18) (hl : ∀ x, x ∈ l → x.natAbs ≤ v1 ∧ x ≠ 0) (h21 : op = 21 → l.length = 2) (h16 : op = 16 ∨ op = 17 → l = []) (hA : A (v1 + 1) = opV op (l.map (lv A))) :
    Good A (addC op ((v1 + 1 : Nat) : Int) l []) v1 (v1 + 1) := by
  have hlt : ∀ x, x ∈ l → x.natAbs < v1 + 1 ∧ x ≠ 0 := fun x hx => ⟨by have := (hl x hx).1; omega, (hl x hx).2⟩
  have hm := op_mv op (v1 + 1) l h18 hlt (by omega)
  refine ⟨fun c hc => ?_, fun a u hu hu2 ha => ?_⟩
  · rw [hm c hc]; omega
  · obtain rfl : u = v1 + 1 := by omega
    rw [hA, ← lit_natlen l a A ha (fun x hx => (hlt x hx).1), ← op_good A op (v1 + 1) (by omega) l h1 h2 h18 hlt h21 h16 a]
    exact ⟨fun h c hc => h c hc (hm c hc), fun h c hc _ => h c hc⟩

mutual
/-- THE LAW: with atoms right and helpers right, the literal means the term, and the clauses tell the helpers. -/
theorem means (ats : List S24) (bit : Nat → Bool) (A : Nat → Bool) (hat : ∀ i, i < ats.length → A (i + 1) = bit i) :
    ∀ (t : S24) (want : Int), rightT t want = true → allF ats t → ∀ (v : Nat), ats.length ≤ v → Run A v (valsT ats bit t) →
      lv A (litT ats t (v : Int) []).1 = truthT ats bit t ∧ (litT ats t (v : Int) []).1 ≠ 0 ∧ (litT ats t (v : Int) []).1.natAbs ≤ v + hT t ∧ (litT ats t (v : Int) []).2.1 = ((v + hT t : Nat) : Int) ∧ Good A (litT ats t (v : Int) []).2.2 v (v + hT t)
  | ⟨op, nm, n, l⟩, want, hr, hf, v, hv, hrun => by
    have hr0 := hr
    rw [rightT] at hr
    rw [litT, truthT, hT]
    rw [valsT] at hrun
    rw [allF] at hf
    by_cases hj : joinsB op = true
    · rw [if_pos hj] at hrun hf ⊢
      rw [if_pos hj, if_pos hj]
      have hop : 16 ≤ op ∧ op ≤ 21 := by unfold joinsB at hj; simpa using hj
      have hR : okHead (shp op.toNat) nm n l.length want = true ∧ rightL l (shp op.toNat) 0 = true := by
        rw [if_neg (by omega), Bool.and_eq_true] at hr; exact hr
      obtain ⟨hH, hR⟩ := hR
      have hrun2 := hrun.app
      rw [valsL_len] at hrun2
      obtain ⟨i1, i2, i3, i4⟩ := meansL ats bit A hat l _ 0 hR hf v hv hrun2.1
      have hlen : (litL ats l (v : Int) []).1.length = l.length := by
        have := congrArg List.length i1
        rw [List.length_map, truthL_len] at this; exact this
      by_cases h18 : op = 18
      · rw [if_pos h18, if_pos h18, if_pos h18]
        rw [h18] at hH
        have h1 : l.length = 1 := ok_len hH rfl
        rw [h1] at hlen
        generalize (litL ats l (v : Int) []) = q at i1 i2 i3 i4 hlen ⊢
        obtain ⟨y, hq⟩ : ∃ y, q.1 = [y] := List.length_eq_one_iff.1 hlen
        rw [hq] at i1 i2 ⊢
        have hy := i2 y List.mem_cons_self
        rw [← i1]
        simp only [List.headD_cons, List.map_cons, List.map_nil]
        refine ⟨lv_neg A hy.2, by omega, by omega, by rw [i3]; omega, ?_⟩
        rw [Nat.zero_add]; exact i4
      · rw [if_neg h18, if_neg h18, if_neg h18]
        rw [if_neg h18] at hrun2
        have hA : A (v + hL l + 1) = opV op ((litL ats l (v : Int) []).1.map (lv A)) := by
          rw [i1]
          exact hrun2.2 0 (by simp)
        have hst := op_step A op (v + hL l) (litL ats l (v : Int) []).1 hop.1 hop.2 h18 i2 (fun h => hlen.trans (imp_two hr0 h)) (fun h => List.length_eq_zero_iff.1 (hlen.trans (leaf_none hr0 h))) hA
        simp only
        rw [i3]
        have e1 : ((v + hL l : Nat) : Int) + 1 = ((v + hL l + 1 : Nat) : Int) := by omega
        rw [e1, addC_app]
        refine ⟨?_, by omega, by omega, by omega, ?_⟩
        · rw [lv_pos A (by omega), hA, i1]
        · rw [show v + (1 + hL l) = v + hL l + 1 by omega]
          exact i4.app hst (by omega) (by omega)
    · rw [if_neg hj] at hrun hf ⊢
      rw [if_neg hj, if_neg hj]
      have hle := findT_le ⟨op, nm, n, l⟩ ats 0
      simp only
      refine ⟨?_, by omega, by omega, by omega, by rw [Nat.add_zero]; exact Good.nil A v⟩
      generalize hg : findT ats ⟨op, nm, n, l⟩ 0 = g at hle hf ⊢
      obtain ⟨k, rfl⟩ : ∃ k : Nat, g = k := ⟨g.toNat, by omega⟩
      rw [show (k : Int) + 1 = ((k + 1 : Nat) : Int) by omega, lv_pos A (by omega), hat k (by omega)]; simp
theorem meansL (ats : List S24) (bit : Nat → Bool) (A : Nat → Bool) (hat : ∀ i, i < ats.length → A (i + 1) = bit i) :
    ∀ (l : List S24) (s : Shp) (i : Nat), rightL l s i = true → allFL ats l → ∀ (v : Nat), ats.length ≤ v → Run A v (valsL ats bit l) →
      (litL ats l (v : Int) []).1.map (lv A) = truthL ats bit l ∧ (∀ x, x ∈ (litL ats l (v : Int) []).1 → x.natAbs ≤ v + hL l ∧ x ≠ 0) ∧ (litL ats l (v : Int) []).2.1 = ((v + hL l : Nat) : Int) ∧ Good A (litL ats l (v : Int) []).2.2 v (v + hL l)
  | [], s, i, hr, hf, v, hv, hrun => by
    rw [litL, truthL, hL]
    exact ⟨rfl, fun x hx => by simp at hx, by simp, by rw [Nat.add_zero]; exact Good.nil A v⟩
  | x :: l, s, i, hr, hf, v, hv, hrun => by
    rw [rightL, Bool.and_eq_true] at hr
    rw [allFL] at hf
    rw [valsL] at hrun
    rw [litL, truthL, hL]
    have hrun2 := hrun.app
    rw [vals_len] at hrun2
    obtain ⟨a1, a2, a3, a4, a5⟩ := means ats bit A hat x _ hr.1 hf.1 v hv hrun2.1
    have happ := litL_app ats l (litT ats x (v : Int) []).2.1 (litT ats x (v : Int) []).2.2
    simp only
    rw [happ.1, happ.2.1, happ.2.2, a4]
    obtain ⟨b1, b2, b3, b4⟩ := meansL ats bit A hat l s (i + 1) hr.2 hf.2 (v + hT x) (by omega) hrun2.2
    refine ⟨by rw [List.map_cons, a1, b1], fun y hy => ?_, by rw [b3]; omega, ?_⟩
    · rcases List.mem_cons.1 hy with rfl | hy
      · exact ⟨by omega, a2⟩
      · have := b2 y hy; exact ⟨by omega, this.2⟩
    · rw [show v + (hT x + hL l) = v + hT x + hL l by omega]
      exact a5.app b4 (by omega) (by omega)
end
end Go.Proofs.YthckboogibhjaaaDoor.Trm
