/- Plain law of CnfAtoms: atoms are what is said of the world alone; each variable stands in some clause. -/
import Derived.Test.YthckboogibhjaaaDoorPCnfAtomsx1
import Derived.Test.YthckboogibhjaaaDoorTrmAt
import Derived.Test.YthckboogibhjaaaDoorTrmSo
namespace Go.Proofs.YthckboogibhjaaaDoor.Pure
set_option linter.unusedVariables false
set_option linter.unusedSimpArgs false
open Go.RowKit Go.Proofs.YthckboogibhjaaaDoor.Trm Go.Proofs.YthckboogibhjaaaDoor.PCnfAtoms Go.Proofs.YthckboogibhjaaaDoorW.PrintWords Go.Proofs.YthckboogibhjaaaDoorW.PrintMore

theorem mx_abs {y : Int} (h1 : -1000000 ≤ y) (h2 : y ≤ 1000000) : mx y (wrap64 (-y)) = (y.natAbs : Int) := by
  have e : wrap64 (-y) = -y := by unfold wrap64; omega
  rw [e]; unfold mx; split <;> omega

/-- Which variables were seen. -/
def Seen (xs : List Bool) (n : Nat) (ys : List Int) : Prop := xs.length = n + 1 ∧ ∀ u, u ≤ n → (xs.getD u false = true ↔ Has u ys)
theorem seen_zero (n : Nat) : Seen (List.replicate (n + 1) false) n [] := by
  refine ⟨by simp, fun u hu => ?_⟩
  rw [List.getD_eq_getElem?_getD, List.getElem?_replicate]
  split <;> simp [Has]
theorem seen_set {xs : List Bool} {n : Nat} {ys : List Int} (h : Seen xs n ys) {y : Int} (hy : y.natAbs ≤ n) : Seen (xs.set y.natAbs true) n (ys ++ [y]) := by
  refine ⟨by rw [List.length_set]; exact h.1, fun u hu => ?_⟩
  rw [Has.app, Has.cons, ← h.2 u hu, List.getD_eq_getElem?_getD, List.getD_eq_getElem?_getD, List.getElem?_set]
  by_cases e : y.natAbs = u
  · rw [if_pos e, if_pos (by have := h.1; omega)]
    simp [e]
  · rw [if_neg e]
    constructor
    · exact fun k => .inl k
    · rintro (k | k | k)
      · exact k
      · exact absurd k e
      · exact absurd k (by simp [Has])
theorem rd_L {l : List (List Int)} {i : Nat} (h : i < l.length) : rd_L3 l (i : Int) = l[i] := by simp [rd_L3, List.getElem?_eq_getElem h]
theorem rd_I {l : List Int} {i : Nat} (h : i < l.length) : rd l (i : Int) = l[i] := by simp [rd, List.getElem?_eq_getElem h]

/-- The last round: each variable was seen; the last clause has one literal. -/
theorem last_ev (l : List (List Int)) (n : Nat) (xs : List Bool) (hx : xs.length = n + 1) (hs : ∀ u, 1 ≤ u → u ≤ n → xs.getD u false = true) (hn : n ≤ 100000) (L : Int) (N : List (List Int)) (hl : l = N ++ [[L]]) (hll : l.length ≤ 100000) :
    ∀ (d v : Nat), v + d = n + 1 → 1 ≤ v → Ev (fun k => ashlarlaw07_CnfAtoms.l3 k true l (n : Int) xs (v : Int)) true := by
  intro d
  induction d with
  | zero =>
    intro v hv h1
    have h0 : ¬ ((v : Int) ≤ (n : Int)) := by omega
    have hlen : l.length = N.length + 1 := by rw [hl]; simp
    have e2 := Lib.hid (show wrap64 ((l.length : Int) - 1) = ((N.length : Nat) : Int) from by rw [hlen]; exact (w_small (by omega) (by omega)).trans (by omega))
    have hget : rd_L3 l ((N.length : Nat) : Int) = [L] := by
      rw [rd_L (by omega)]
      simp [hl]
    have a1 : (l.length : Int) > 0 := by omega
    have a2 : (0 : Int) ≤ ((N.length : Nat) : Int) := Int.natCast_nonneg _
    have a3 : ((N.length : Nat) : Int) < (l.length : Int) := by omega
    exact Ev.step (f := fun _ => some true) (fun k => by rw [ashlarlaw07_CnfAtoms.l3, if_neg h0, if_pos rfl, if_pos a1, e2.out, if_pos a2, if_pos a3, hget]; rfl) (Ev.now _)
  | succ d ih =>
    intro v hv h1
    have h0 : (v : Int) ≤ (n : Int) := by omega
    have hp0 : (0 : Int) ≤ (v : Int) := Int.natCast_nonneg v
    have hp : (v : Int) < (xs.length : Int) := by omega
    have hnx := ih (v + 1) (by omega) (by omega)
    have hr : rdOf false xs (v : Int) = true := by unfold rdOf; rw [Int.toNat_natCast]; exact hs v h1 (by omega)
    have e2 : wrap64 ((v : Int) + 1) = ((v + 1 : Nat) : Int) := wrapj (by omega)
    exact Ev.step (f := fun k => ashlarlaw07_CnfAtoms.l3 k true l (n : Int) xs ((v + 1 : Nat) : Int)) (fun k => by rw [ashlarlaw07_CnfAtoms.l3, if_pos h0, if_pos hp0, if_pos hp, hr, if_pos rfl, e2]) hnx

/-- All clauses are looked at. -/
theorem clauses_ev (l : List (List Int)) (n : Nat) (hv : ∀ u, Has u l.flatten ↔ 1 ≤ u ∧ u ≤ n) (hn : n ≤ 100000) (L : Int) (N : List (List Int)) (hl : l = N ++ [[L]]) (hll : l.length ≤ 100000) (hrow : ∀ c, c ∈ l → c.length ≤ 1000000) :
    ∀ (d i : Nat), i + d = l.length → ∀ xs, Seen xs n (l.take i).flatten → Ev (fun k => ashlarlaw07_CnfAtoms.l1 k true l (n : Int) xs (i : Int)) true := by
  intro d
  induction d with
  | zero =>
    intro i hi xs hx
    have h0 : ¬ ((i : Int) < (l.length : Int)) := by omega
    rw [List.take_of_length_le (by omega)] at hx
    have := last_ev l n xs hx.1 (fun u h1 h2 => (hx.2 u h2).2 ((hv u).2 ⟨h1, h2⟩)) hn L N hl hll n 1 (by omega) (Nat.le_refl _)
    exact Ev.step (f := fun k => ashlarlaw07_CnfAtoms.l3 k true l (n : Int) xs 1) (fun k => by rw [ashlarlaw07_CnfAtoms.l1, if_neg h0]) this
  | succ d ih =>
    intro i hi xs hx
    have hil : i < l.length := by omega
    have h0 : (i : Int) < (l.length : Int) := by omega
    have hp0 : (0 : Int) ≤ (i : Int) := Int.natCast_nonneg i
    have hc := hrow _ (List.getElem_mem hil)
    have inner : ∀ (e j : Nat), j + e = l[i].length → ∀ xs, Seen xs n ((l.take i).flatten ++ l[i].take j) → Ev (fun k => ashlarlaw07_CnfAtoms.l2 k true l (n : Int) xs (i : Int) (j : Int)) true := by
      intro e
      induction e with
      | zero =>
        intro j hj xs hx
        have h1 : ¬ ((j : Int) < (l[i].length : Int)) := by omega
        rw [List.take_of_length_le (Nat.le_of_eq (by omega : l[i].length = j))] at hx
        have hx' : Seen xs n (l.take (i + 1)).flatten := by
          rw [List.take_succ_eq_append_getElem hil, List.flatten_append]; simpa using hx
        have hnx := ih (i + 1) (by omega) xs hx'
        have e2 : wrap64 ((i : Int) + 1) = ((i + 1 : Nat) : Int) := wrapj (by omega)
        exact Ev.step (f := fun k => ashlarlaw07_CnfAtoms.l1 k true l (n : Int) xs ((i + 1 : Nat) : Int)) (fun k => by rw [ashlarlaw07_CnfAtoms.l2, if_pos hp0, if_pos h0, rd_L hil, if_neg h1, e2]) hnx
      | succ e ihe =>
        intro j hj xs hx
        have hjl : j < l[i].length := by omega
        have h1 : (j : Int) < (l[i].length : Int) := by omega
        have hj0 : (0 : Int) ≤ (j : Int) := Int.natCast_nonneg j
        have hy : Has l[i][j].natAbs l.flatten := ⟨l[i][j], List.mem_flatten.2 ⟨_, List.getElem_mem hil, List.getElem_mem hjl⟩, rfl⟩
        have hb := (hv _).1 hy
        have hm : mx l[i][j] (wrap64 (-l[i][j])) = ((l[i][j].natAbs : Nat) : Int) := mx_abs (by omega) (by omega)
        have hx' := seen_set hx hb.2
        rw [List.append_assoc, show l[i].take j ++ [l[i][j]] = l[i].take (j + 1) from (List.take_succ_eq_append_getElem hjl).symm] at hx'
        have hnx := ihe (j + 1) (by omega) _ hx'
        have hlen := hx.1
        generalize l[i][j].natAbs = m at *
        have b1 : ¬ ((m : Int) < 1) := by omega
        have b2 : ¬ ((m : Int) > (n : Int)) := by omega
        have b3 : (0 : Int) ≤ (m : Int) := Int.natCast_nonneg m
        have b4 : (m : Int) < (xs.length : Int) := by omega
        have b5 : ((m : Int)).toNat = m := by simp
        have e2 : wrap64 ((j : Int) + 1) = ((j + 1 : Nat) : Int) := wrapj (by omega)
        exact Ev.step (f := fun k => ashlarlaw07_CnfAtoms.l2 k true l (n : Int) (xs.set m true) (i : Int) ((j + 1 : Nat) : Int)) (fun k => by rw [ashlarlaw07_CnfAtoms.l2, if_pos hp0, if_pos h0, rd_L hil, if_pos h1, if_pos hj0, rd_I hjl, hm, if_neg b1, if_neg b2, if_pos b3, if_pos b4, b5, e2]) hnx
    have := inner l[i].length 0 (by omega) xs (by simpa using hx)
    exact Ev.step (f := fun k => ashlarlaw07_CnfAtoms.l2 k true l (n : Int) xs (i : Int) 0) (fun k => by rw [ashlarlaw07_CnfAtoms.l1, if_pos h0]) this

theorem CnfAtoms (t : S24) : ∃ k, ashlarlaw07_CnfAtoms.f k t.f0 t.f1 t.f2 t.f3 = some true := by
  refine Ev.rounds ?_
  unfold ashlarlaw07_CnfAtoms.f ashlarlaw07_shown.f cnf_Clauses.f
  simp only [Option.bind_some]
  have ht : (⟨t.f0, t.f1, t.f2, t.f3⟩ : S24) = t := by cases t; rfl
  rw [ht]
  by_cases he : (clausesT t).2.2.2 = 0
  · obtain ⟨s0, s4, hcl⟩ := clauses_ok he
    obtain ⟨hs, hd, hr⟩ := sort_small s0
    have hr4 : rightT t 4 = true := by
      rw [right_want (by decide), hr]
      unfold sortT at s4
      have hb : bigT t = false := by rw [bigT_is]; simp; omega
      rw [hb, if_neg (by decide), if_pos hr] at s4
      simp only at s4
      rw [s4]; rfl
    obtain ⟨hv1, hv2⟩ := all_vars t hr4 hd
    have hfound := each_found t [] hd
    have hrt := each_right t [] hr4
    have hun : Unlike (atomsT t) := each_unlike t [] hd (fun i h => absurd h (by simp))
    have hal := atomsT_len t
    have hTle := (T_le t).2
    have hle := litT_le (atomsT t) t ((atomsT t).length : Int) [] (Int.le_refl _)
    have hrow := litT_row (atomsT t) 1000000 t ((atomsT t).length : Int) [] (Int.le_refl _) (by omega) (by simp)
    have hfine : ∀ x, x ∈ atomsT t → fine x := fun x hx => by
      rcases hfound.2.2 x hx with h | h
      · simp at h
      · exact fine_small x (by omega)
    have hsort : ∀ x, x ∈ atomsT t → sortT x = (4, 0) ∧ joinsB x.f0 = false := fun x hx => by
      have hx4 : joinsB x.f0 = false ∧ rightT x 4 = true := by
        rcases hrt x hx with h | h
        · simp at h
        · exact h
      have hsz : tdeep x ≤ tdeep t ∧ tsize x ≤ tsize t := by
        rcases hfound.2.2 x hx with h | h
        · simp at h
        · exact h
      have hb : bigT x = false := by rw [bigT_is]; simp; omega
      have hw := hx4.2
      rw [right_want (by decide), Bool.and_eq_true, decide_eq_true_eq] at hw
      exact ⟨by unfold sortT; rw [hb, if_neg (by decide), if_pos hw.1, hw.2], hx4.1⟩
    rw [hcl]
    simp only [if_true]
    rw [hv1]
    generalize hats : atomsT t = ats at *
    generalize hN : (litT ats t ats.length []).2.2 = N at *
    generalize hL : (litT ats t ats.length []).1 = L at *
    generalize hnn : ats.length + hT t = n at *
    have hnle : n ≤ 5000 := by omega
    have hNl : N.length + 1 ≤ 5000 := by have := hle.2.2.2.2; simp at this; omega
    have hgo : Ev (fun k => ashlarlaw07_CnfAtoms.l1 k true (N ++ [[L]]) (n : Int) (List.replicate (n + 1) false) 0) true := by
      refine clauses_ev (N ++ [[L]]) n hv2 (by omega) L N rfl (by simp; omega) (fun c hc => ?_) (N ++ [[L]]).length 0 (by omega) _ (by simpa using seen_zero n)
      rcases List.mem_append.1 hc with h | h
      · exact hrow c h
      · rw [List.mem_singleton.1 h]; simp
    have hal2 : ats.length ≤ 2000 := by omega
    clear hle hrow hv1 hv2 hcl he s0 s4 hTle hal
    have loop : ∀ (d i : Nat), i + d = ats.length → Ev (fun k => ashlarlaw07_CnfAtoms.l0 k true (N ++ [[L]]) ats (n : Int) (i : Int)) true := by
      intro d
      induction d with
      | zero =>
        intro i hi
        have h0 : ¬ ((i : Int) < (ats.length : Int)) := by omega
        have b1 : (0 : Int) ≤ ((n + 1 : Nat) : Int) := Int.natCast_nonneg _
        have b2 : ((n + 1 : Nat) : Int).toNat = n + 1 := by simp
        have b3 : n + 1 ≤ 281474976710656 := by omega
        have e2 : wrap64 ((n : Int) + 1) = ((n + 1 : Nat) : Int) := wrapj (by omega)
        exact Ev.step (f := fun k => ashlarlaw07_CnfAtoms.l1 k true (N ++ [[L]]) (n : Int) (List.replicate (n + 1) false) 0) (fun k => by rw [ashlarlaw07_CnfAtoms.l0, if_neg h0, e2, if_pos b1, b2, if_pos b3]) hgo
      | succ d ih =>
        intro i hi
        have hil : i < ats.length := by omega
        have h0 : (i : Int) < (ats.length : Int) := by omega
        have hp0 : (0 : Int) ≤ (i : Int) := Int.natCast_nonneg i
        have hnx := ih (i + 1) (by omega)
        have hm := List.getElem_mem hil
        obtain ⟨hs4, hj⟩ := hsort _ hm
        have hfi := RFind_ev ats ats[i] hfine (hfine _ hm) (by omega)
        rw [hun i hil] at hfi
        have hso := RSort_ev ats[i] (hfine _ hm)
        rw [hs4] at hso
        have e2 : wrap64 ((i : Int) + 1) = ((i + 1 : Nat) : Int) := wrapj (by omega)
        refine Ev.step (f := fun k => (ashlarref03_Sort.f k ats[i].f0 ats[i].f1 ats[i].f2 ats[i].f3).bind fun z => _) (fun k => by rw [ashlarlaw07_CnfAtoms.l0, if_pos h0, if_pos hp0, rd_get hil, e2]) ?_
        refine Ev.bind hso ?_
        simp only [if_true]
        have hj' : ¬ (16 ≤ ats[i].f0 ∧ ats[i].f0 ≤ 21) := by
          unfold joinsB at hj
          simp only [Bool.and_eq_false_iff, decide_eq_false_iff_not] at hj
          omega
        by_cases h16 : ats[i].f0 ≥ 16
        · have h21 : ¬ ats[i].f0 ≤ 21 := by omega
          simp only [if_pos h16, if_neg h21]
          refine Ev.bind hfi ?_
          simp only [if_true]
          exact hnx
        · simp only [if_neg h16]
          refine Ev.bind hfi ?_
          simp only [if_true]
          exact hnx
    exact loop ats.length 0 (by omega)
  · simp only [if_neg he, if_true]
    have hbad := clauses_bad he
    have hc : clausesT t = ([], [], 0, (clausesT t).2.2.2) := by
      unfold clausesT
      by_cases h0 : (sortT t).2 = 0
      · by_cases h4 : (sortT t).1 = 4
        · exact absurd ⟨h0, h4⟩ hbad
        · rw [if_pos h0, if_neg h4]
      · rw [if_neg h0]
    rw [hc]
    exact Ev.now _
end Go.Proofs.YthckboogibhjaaaDoor.Pure
