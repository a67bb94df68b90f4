/- Plain law of CnfMeans: a formula's clauses mean it. -/
import Derived.Test.YthckboogibhjaaaDoorPCnfMeansx4
import Derived.Test.YthckboogibhjaaaDoorMeansA
namespace Go.Proofs.YthckboogibhjaaaDoor.Pure
set_option linter.unusedVariables false
set_option linter.unusedSimpArgs false
open Go.RowKit Go.Proofs.YthckboogibhjaaaDoor.Trm Go.Proofs.YthckboogibhjaaaDoor.PCnfMeans Go.Proofs.YthckboogibhjaaaDoorW.PrintWords Go.Proofs.YthckboogibhjaaaDoorW.PrintMore

theorem good_known {A : Nat → Bool} {N : List (List Int)} {v0 v' : Nat} (h : Trm.Good A N v0 v') (a : Nat → Bool) (u : Nat) (h1 : v0 < u) (h2 : u ≤ v') (ha : ∀ i, i < u → a i = A i) : (∀ c, c ∈ N → mv c ≤ u → ev a c = true) ↔ a u = A u := by
  constructor
  · exact fun hk => (h.2 a u h1 h2 ha).1 fun c hc hm => hk c hc (by omega)
  · intro hu c hc hm
    by_cases e : mv c = u
    · exact (h.2 a u h1 h2 ha).2 hu c hc e
    · have hb := h.1 c hc
      exact (h.2 a (mv c) hb.1 hb.2 (fun i hi => ha i (by omega))).2 (ha _ (by omega)) c hc rfl
theorem good_full {A : Nat → Bool} {N : List (List Int)} {v0 v' : Nat} (h : Trm.Good A N v0 v') (a : Nat → Bool) (ha : ∀ i, i ≤ v' → a i = A i) : ∀ c, c ∈ N → ev a c = true := fun c hc => by
  have hb := h.1 c hc
  exact (h.2 a (mv c) hb.1 hb.2 (fun i hi => ha i (by omega))).2 (ha _ (by omega)) c hc rfl
theorem vr_set (xs : List Bool) (v : Nat) (b : Bool) (hv : v < xs.length) (i : Nat) : vr (xs.set v b) i = if i = v then b else vr xs i := by
  unfold vr
  rw [List.getD_eq_getElem?_getD, List.getD_eq_getElem?_getD, List.getElem?_set]
  by_cases h : v = i
  · subst h; simp [hv]
  · rw [if_neg h, if_neg (fun e => h e.symm)]
theorem vr_zeros (n i : Nat) : vr (List.replicate n false) i = false := by
  unfold vr
  rw [List.getD_eq_getElem?_getD, List.getElem?_replicate]
  split <;> rfl
theorem shl_bound (al : Nat) (h : al ≤ 6) : ∃ B : Nat, B ≤ 64 ∧ shl .u64 1 (IntKind.u64.wrap (al : Int)) = (B : Int) := by
  refine ⟨2 ^ al, ?_, ?_⟩ <;> (rcases (show al = 0 ∨ al = 1 ∨ al = 2 ∨ al = 3 ∨ al = 4 ∨ al = 5 ∨ al = 6 by omega) with rfl | rfl | rfl | rfl | rfl | rfl | rfl <;> decide +kernel)

/-- All rounds of a formula's worlds. -/
theorem worlds (t : S24) (hsz : tsize t ≤ 2000) (hd : tdeep t ≤ 100) (hr : rightT t 0 = true) (h6 : (atomsT t).length ≤ 6) (h60 : (litT (atomsT t) t (atomsT t).length []).2.2.length ≤ 60) :
    Ev (fun k => ashlarlaw07_CnfMeans.l0 k true ((litT (atomsT t) t (atomsT t).length []).2.2 ++ [[(litT (atomsT t) t (atomsT t).length []).1]]) (atomsT t) (litT (atomsT t) t (atomsT t).length []).2.1 0 t.f0 t.f1 t.f2 t.f3) true := by
  have hfound := each_found t [] hd
  have hF : allF (atomsT t) t := hfound.1
  have hfine : ∀ x, x ∈ atomsT t → fine x := fun x hx => by
    rcases hfound.2.2 x hx with h | h
    · simp at h
    · exact fine_small x (by omega)
  have hM := fun (bit : Nat → Bool) (A : Nat → Bool) h1 h2 => means (atomsT t) bit A h1 t 0 hr hF (atomsT t).length (Nat.le_refl _) h2
  have hrow := litT_row (atomsT t) 1000000 t ((atomsT t).length : Int) [] (Int.le_refl _) (by omega) (by simp)
  have hvl := fun bit => vals_len (atomsT t) bit t
  have hTle := (T_le t).2
  generalize litT (atomsT t) t ((atomsT t).length : Int) [] = q at hM hrow h60 ⊢
  obtain ⟨L, n, N⟩ := q
  simp only at hM hrow h60 ⊢
  generalize atomsT t = ats at *
  generalize hal : ats.length = al at *
  generalize hT t = hh at *
  obtain ⟨B, hB64, hB0⟩ := shl_bound al h6
  have hB := Lib.hid hB0
  clear hB0
  have hn : n = ((al + hh : Nat) : Int) := by
    refine (hM (fun _ => false) (fun i => if i ≤ al then false else (valsT ats (fun _ => false) t).getD (i - al - 1) false) ?_ ?_).2.2.2.1
    · intro i hi
      exact if_pos (by omega)
    · intro j hj
      refine (if_neg (by omega)).trans ?_
      rw [show al + 1 + j - al - 1 = j by omega, List.getD_eq_getElem?_getD, List.getElem?_eq_getElem hj]; rfl
  generalize hnn : al + hh = nn at *
  subst hn
  have hcl : (((N ++ [[L]]).length : Nat) : Int) = ((N.length + 1 : Nat) : Int) := by simp
  have hw1 := Lib.hid (show wrap64 (((N.length + 1 : Nat) : Int) - 1) = (N.length : Int) from (w_small (by omega) (by omega)).trans (by omega))
  have hN0 : (0 : Int) ≤ (N.length : Int) := Int.natCast_nonneg _
  have hN1 : (N.length : Int) ≤ ((N.length + 1 : Nat) : Int) := by omega
  have hN2 : (N.length : Int) < ((N.length + 1 : Nat) : Int) := by omega
  have htake : (N ++ [[L]]).take ((N.length : Int)).toNat = N := by simp
  have hrd : rd_L2 (N ++ [[L]]) (N.length : Int) = [L] := by simp [rd_L2]
  -- one world
  have world : ∀ (s : Nat), s < B → Ev (fun k => ashlarlaw07_CnfMeans.l0 k true (N ++ [[L]]) ats (nn : Int) ((s + 1 : Nat) : Int) t.f0 t.f1 t.f2 t.f3) true → Ev (fun k => ashlarlaw07_CnfMeans.l0 k true (N ++ [[L]]) ats (nn : Int) (s : Int) t.f0 t.f1 t.f2 t.f3) true := by
    intro s hs CONT
    obtain ⟨A, hA⟩ : ∃ A : Nat → Bool, A = fun i => if i = 0 then false else if i ≤ al then bitO (s : Int) (i - 1) else (valsT ats (bitO (s : Int)) t).getD (i - al - 1) false := ⟨_, rfl⟩
    have hA0 : A 0 = false := by rw [hA]; rfl
    have hA1 : ∀ i, i < al → A (i + 1) = bitO (s : Int) i := fun i hi => by
      rw [hA]; simp only; rw [if_neg (by omega), if_pos (by omega), Nat.add_sub_cancel]
    have hA2 : Run A al (valsT ats (bitO (s : Int)) t) := fun j hj => by
      rw [hA]; simp only
      rw [if_neg (by omega), if_neg (by omega), show al + 1 + j - al - 1 = j by omega, List.getD_eq_getElem?_getD, List.getElem?_eq_getElem hj]; rfl
    clear hA
    obtain ⟨m1, m2, m3, -, mG⟩ := hM (bitO (s : Int)) A hA1 hA2
    have hbnd : ∀ c, c ∈ N → c.length ≤ 1000000 ∧ ∀ x, x ∈ c → x.natAbs < nn + 1 := fun c hc => ⟨hrow c hc, fun x hx => by
      have := (mG.1 c hc).2
      have := mv_mem hx
      omega⟩
    have hTr := truth_ev ats (s : Int) hfine (by omega) (tsize t) t (Nat.le_refl _) (by omega) ⟨0, hr⟩ hF
    -- the last check
    have last : ∀ xs : List Bool, xs.length = nn + 1 → (∀ i, i ≤ nn → vr xs i = A i) → Ev (fun k => ashlarlaw07_CnfMeans.l2 k true (N ++ [[L]]) ats (nn : Int) (s : Int) xs ((nn + 1 : Nat) : Int) t.f0 t.f1 t.f2 t.f3) true := by
      intro xs hx ha
      have hno : ¬ (((nn + 1 : Nat) : Int) ≤ (nn : Int)) := by omega
      have hK : (N.all fun c => decide (nn < mv c) || ev (vr xs) c) = true := List.all_eq_true.2 fun c hc => by
        rw [good_full mG (vr xs) ha c hc]; simp
      have hKe := known_ev N xs nn (fun c hc => ⟨(hbnd c hc).1, fun x hx2 => by have := (hbnd c hc).2 x hx2; omega⟩) (by omega) (by omega)
      rw [hK] at hKe
      have hHe := holds_ev [L] xs (fun x hx2 => by rw [List.mem_singleton.1 hx2]; omega) (by omega) (by simp)
      have hLv : ev (vr xs) [L] = truthT ats (bitO (s : Int)) t := by
        rw [ev, List.any_cons, List.any_nil, Bool.or_false, lv_agree (u := nn + 1) (fun i hi => ha i (by omega)) (by omega), m1]
      rw [hLv] at hHe
      have ew := Lib.hid (show IntKind.u64.wrap ((s : Int) + 1) = ((s + 1 : Nat) : Int) from (u64_small (by omega) (by omega)).trans (by omega))
      refine Ev.step (f := fun k => (ashlarlaw07_known.f k N xs (nn : Int)).bind fun t175 => (if t175 = true then (((ashlarlaw07_holds.f k [L] xs).bind fun t177 => ((ashlarlaw07_truth.f k ats (s : Int) t.f0 t.f1 t.f2 t.f3).bind fun t178 => (if (t177 != t178) = true then (some false) else (ashlarlaw07_CnfMeans.l0 k true (N ++ [[L]]) ats (nn : Int) ((s + 1 : Nat) : Int) t.f0 t.f1 t.f2 t.f3))))) else (some false))) (fun k => by
        rw [ashlarlaw07_CnfMeans.l2, if_neg hno]; simp only [hcl, hw1.out, if_pos hN0, if_pos hN1, if_pos hN2, htake, hrd, ew.out]) ?_
      refine Ev.bind hKe ?_
      simp only [if_pos rfl]
      refine Ev.bind hHe ?_
      refine Ev.bind hTr ?_
      simpa using CONT
    -- each helper
    have helpers : ∀ (d v : Nat) (xs : List Bool), v + d = nn + 1 → al < v → xs.length = nn + 1 → (∀ i, i < v → vr xs i = A i) → Ev (fun k => ashlarlaw07_CnfMeans.l2 k true (N ++ [[L]]) ats (nn : Int) (s : Int) xs (v : Int) t.f0 t.f1 t.f2 t.f3) true := by
      intro d
      induction d with
      | zero =>
        intro v xs hv _ hx ha
        obtain rfl : v = nn + 1 := by omega
        exact last xs hx (fun i hi => ha i (by omega))
      | succ d ih =>
        intro v xs hv hlt hx ha
        have hvn : v ≤ nn := by omega
        have hv1 : (v : Int) ≤ (nn : Int) := by omega
        have hv0 : (0 : Int) ≤ (v : Int) := Int.natCast_nonneg v
        have hvx : ∀ y : List Bool, y.length = nn + 1 → (v : Int) < (y.length : Int) := fun y hy => by omega
        have e2 := Lib.hid (show wrap64 ((v : Int) + 1) = ((v + 1 : Nat) : Int) from wrapj (by omega))
        have K : ∀ y : List Bool, y.length = nn + 1 → (∀ i, i < v → vr y i = A i) → Ev (fun k => ashlarlaw07_known.f k N y (v : Int)) (vr y v == A v) := by
          intro y hy hay
          have h1 := known_ev N y v (fun c hc => ⟨(hbnd c hc).1, fun x hx2 => by have := (hbnd c hc).2 x hx2; omega⟩) (by omega) (by omega)
          have h2 : (N.all fun c => decide (v < mv c) || ev (vr y) c) = (vr y v == A v) := by
            rw [Bool.eq_iff_iff, List.all_eq_true, beq_iff_eq, ← good_known mG (vr y) v hlt hvn hay]
            constructor
            · intro h c hc hm
              have := h c hc
              simpa [show ¬ v < mv c by omega] using this
            · intro h c hc
              by_cases hm : v < mv c
              · simp [hm]
              · rw [h c hc (by omega)]; simp
          rw [h2] at h1
          exact h1
        have step3 : ∀ (y : List Bool) (w : Int) (val : Bool) (kk : Nat) (b : Bool), kk < 2 → ((kk : Int) == 1) = b → y.length = nn + 1 → (∀ i, i < v → vr y i = A i) →
            (Ev (fun k => if (b == A v) = true then ashlarlaw07_CnfMeans.l3 k true (N ++ [[L]]) ats (nn : Int) (s : Int) (y.set v b) (v : Int) (wrap64 (w + 1)) b ((kk + 1 : Nat) : Int) t.f0 t.f1 t.f2 t.f3 else ashlarlaw07_CnfMeans.l3 k true (N ++ [[L]]) ats (nn : Int) (s : Int) (y.set v b) (v : Int) w val ((kk + 1 : Nat) : Int) t.f0 t.f1 t.f2 t.f3) true) →
            Ev (fun k => ashlarlaw07_CnfMeans.l3 k true (N ++ [[L]]) ats (nn : Int) (s : Int) y (v : Int) w val (kk : Int) t.f0 t.f1 t.f2 t.f3) true := by
          intro y w val kk b hk hb hy hay hgo
          have hk2 : (kk : Int) < 2 := by omega
          have ek := Lib.hid (show wrap64 ((kk : Int) + 1) = ((kk + 1 : Nat) : Int) from wrapj (by omega))
          have hvl2 : v < y.length := by omega
          have hset : ∀ i, vr (y.set v b) i = if i = v then b else vr y i := vr_set y v b hvl2
          have hKe := K (y.set v b) (by rw [List.length_set]; exact hy) (fun i hi => by rw [hset, if_neg (by omega)]; exact hay i hi)
          rw [hset v, if_pos rfl] at hKe
          have hro : rdOf false (y.set v b) (v : Int) = b := by
            have := hset v
            rw [if_pos rfl] at this
            exact this
          have hvi : ((v : Int)).toNat = v := by simp
          refine Ev.step (f := fun k => (ashlarlaw07_known.f k N (y.set v b) (v : Int)).bind fun z => if z = true then ashlarlaw07_CnfMeans.l3 k true (N ++ [[L]]) ats (nn : Int) (s : Int) (y.set v b) (v : Int) (wrap64 (w + 1)) b ((kk + 1 : Nat) : Int) t.f0 t.f1 t.f2 t.f3 else ashlarlaw07_CnfMeans.l3 k true (N ++ [[L]]) ats (nn : Int) (s : Int) (y.set v b) (v : Int) w val ((kk + 1 : Nat) : Int) t.f0 t.f1 t.f2 t.f3) (fun k => by
            rw [ashlarlaw07_CnfMeans.l3, if_pos hk2, if_pos hv0, if_pos (hvx y hy)]; simp only [Option.bind_some, hcl, hw1.out, if_pos hN0, if_pos hN1, htake, hb, hvi, hro, ek.out]) ?_
          exact Ev.bind hKe hgo
        have fin : ∀ (y : List Bool), y.length = nn + 1 → (∀ i, i < v → vr y i = A i) → Ev (fun k => ashlarlaw07_CnfMeans.l3 k true (N ++ [[L]]) ats (nn : Int) (s : Int) y (v : Int) 1 (A v) ((2 : Nat) : Int) t.f0 t.f1 t.f2 t.f3) true := by
          intro y hy hay
          have hk2 : ¬ (((2 : Nat) : Int) < 2) := by omega
          have hvi : ((v : Int)).toNat = v := by simp
          have hvl2 : v < y.length := by omega
          refine Ev.step (fun k => by rw [ashlarlaw07_CnfMeans.l3, if_neg hk2, if_pos rfl, if_pos hv0, if_pos (hvx y hy), e2.out, hvi]) (ih (v + 1) (y.set v (A v)) (by omega) (by omega) (by rw [List.length_set]; exact hy) (fun i hi => ?_))
          rw [vr_set y v (A v) hvl2]
          split
          · rename_i h; rw [h]
          · exact hay i (by omega)
        have hset1 : ∀ i, i < v → vr (xs.set v false) i = A i := fun i hi => by rw [vr_set xs v false (by omega), if_neg (by omega)]; exact ha i hi
        have hset2 : ∀ i, i < v → vr ((xs.set v false).set v true) i = A i := fun i hi => by rw [vr_set _ v true (by rw [List.length_set]; omega), if_neg (by omega)]; exact hset1 i hi
        have fin2 := fin ((xs.set v false).set v true) (by rw [List.length_set, List.length_set]; exact hx) hset2
        have w01 := Lib.hid (show wrap64 ((0 : Int) + 1) = 1 from w_small (by omega) (by omega))
        have w11 := Lib.hid (show wrap64 (1 : Int) = 1 from w_small (by omega) (by omega))
        have go3 : Ev (fun k => ashlarlaw07_CnfMeans.l3 k true (N ++ [[L]]) ats (nn : Int) (s : Int) xs (v : Int) 0 false ((0 : Nat) : Int) t.f0 t.f1 t.f2 t.f3) true := by
          refine step3 xs 0 false 0 false (by omega) rfl hx ha ?_
          cases hav : A v with
          | false =>
            rw [hav] at fin2
            simp only [beq_self_eq_true, if_true, w01.out]
            refine step3 (xs.set v false) 1 false 1 true (by omega) rfl (by rw [List.length_set]; exact hx) hset1 ?_
            simpa [hav] using fin2
          | true =>
            rw [hav] at fin2
            have hne : ((false == true) = true) = False := by simp
            simp only [hne, if_false]
            refine step3 (xs.set v false) 0 false 1 true (by omega) rfl (by rw [List.length_set]; exact hx) hset1 ?_
            simpa [hav, w01.out, w11.out] using fin2
        have z : ((0 : Nat) : Int) = 0 := rfl
        rw [z] at go3
        exact Ev.step (fun k => by rw [ashlarlaw07_CnfMeans.l2, if_pos hv1]) go3
    -- the atoms
    have atoms : ∀ (d j : Nat) (xs : List Bool), j + d = al → xs.length = nn + 1 → (∀ i, i ≤ j → vr xs i = A i) → Ev (fun k => ashlarlaw07_CnfMeans.l1 k true (N ++ [[L]]) ats (nn : Int) (s : Int) xs (j : Int) t.f0 t.f1 t.f2 t.f3) true := by
      intro d
      induction d with
      | zero =>
        intro j xs hj hx ha
        have hno : ¬ ((j : Int) < (al : Int)) := by omega
        have e2 := Lib.hid (show wrap64 ((al : Int) + 1) = ((al + 1 : Nat) : Int) from wrapj (by omega))
        exact Ev.step (fun k => by rw [ashlarlaw07_CnfMeans.l1, hal, if_neg hno, e2.out]) (helpers (nn - al) (al + 1) xs (by omega) (by omega) hx (fun i hi => ha i (by omega)))
      | succ d ih =>
        intro j xs hj hx ha
        have hp : (j : Int) < (al : Int) := by omega
        have hp0 : (0 : Int) ≤ (j : Int) := Int.natCast_nonneg j
        have ej := Lib.hid (show IntKind.u64.wrap (j : Int) = (j : Int) from u64_small hp0 (by omega))
        have e2 := Lib.hid (show wrap64 ((j : Int) + 1) = ((j + 1 : Nat) : Int) from wrapj (by omega))
        have h1 : (0 : Int) ≤ ((j + 1 : Nat) : Int) := Int.natCast_nonneg _
        have h2 : ((j + 1 : Nat) : Int) < (xs.length : Int) := by omega
        have h3 : (((j + 1 : Nat) : Int)).toNat = j + 1 := by simp
        have hb : bitO (s : Int) j = (Go.bits .and .u64 (shr .u64 (s : Int) (j : Int)) 1 == 1) := rfl
        refine Ev.step (fun k => by rw [ashlarlaw07_CnfMeans.l1, hal, if_pos hp, ej.out, if_pos hp0, e2.out, if_pos h1, if_pos h2, h3, ← hb]) (ih (j + 1) (xs.set (j + 1) (bitO (s : Int) j)) (by omega) (by rw [List.length_set]; exact hx) (fun i hi => ?_))
        rw [vr_set xs (j + 1) _ (by omega)]
        split
        · rename_i h; rw [h, hA1 j (by omega)]
        · exact ha i (by omega)
    have hw := Lib.hid (show wrap64 ((nn : Int) + 1) = ((nn + 1 : Nat) : Int) from wrapj (by omega))
    have h0 : (0 : Int) ≤ IntKind.u64.wrap (al : Int) := by rw [u64_small (by omega) (by omega)]; omega
    have h1 : (s : Int) < (B : Int) := by omega
    have h2 : (0 : Int) ≤ ((nn + 1 : Nat) : Int) := Int.natCast_nonneg _
    have h3 : (((nn + 1 : Nat) : Int)).toNat = nn + 1 := by simp
    have h4 : nn + 1 ≤ 281474976710656 := by omega
    have go1 := atoms al 0 (List.replicate (nn + 1) false) (by omega) (by rw [List.length_replicate]) (fun i hi => by
      have hi0 : i = 0 := by omega
      rw [vr_zeros, hi0, hA0])
    have z : ((0 : Nat) : Int) = 0 := rfl
    rw [z] at go1
    exact Ev.step (fun k => by rw [ashlarlaw07_CnfMeans.l0, hal, if_pos h0, hB.out, if_pos h1, hw.out, if_pos h2, h3, if_pos h4]) go1
  have all : ∀ (d s : Nat), s + d = B → Ev (fun k => ashlarlaw07_CnfMeans.l0 k true (N ++ [[L]]) ats (nn : Int) (s : Int) t.f0 t.f1 t.f2 t.f3) true := by
    intro d
    induction d with
    | zero =>
      intro s hs
      have h0 : (0 : Int) ≤ IntKind.u64.wrap (al : Int) := by rw [u64_small (by omega) (by omega)]; omega
      have h1 : ¬ ((s : Int) < (B : Int)) := by omega
      exact Ev.step (f := fun _ => some true) (fun k => by rw [ashlarlaw07_CnfMeans.l0, hal, if_pos h0, hB.out, if_neg h1]) (Ev.now _)
    | succ d ih =>
      intro s hs
      exact world s (by omega) (ih (s + 1) (by omega))
  exact all B 0 (by omega)

theorem CnfMeans (t : S24) : ∃ k, ashlarlaw07_CnfMeans.f k t.f0 t.f1 t.f2 t.f3 = some true := by
  refine Ev.rounds ?_
  unfold ashlarlaw07_CnfMeans.f ashlarlaw07_shown.f cnf_Clauses.f
  simp only [Option.bind_some]
  have ht : (⟨t.f0, t.f1, t.f2, t.f3⟩ : S24) = t := by cases t; rfl
  rw [ht]
  have skip : ∀ c a n, Ev (fun k => ashlarlaw07_CnfMeans.j0 k true c a n true t.f0 t.f1 t.f2 t.f3) true := fun c a n => Ev.step (f := fun _ => some true) (fun k => by rw [ashlarlaw07_CnfMeans.j0, if_pos rfl]) (Ev.now _)
  by_cases he : (clausesT t).2.2.2 = 0
  · obtain ⟨h0, h4, hcl⟩ := clauses_ok he
    obtain ⟨hs, hd, hr⟩ := sort_small h0
    rw [hcl]
    simp only [if_true]
    by_cases h6 : ((atomsT t).length : Int) > 6
    · simp only [if_pos h6]; exact skip _ _ _
    · simp only [if_neg h6]
      by_cases h60 : ((((litT (atomsT t) t (atomsT t).length []).2.2 ++ [[(litT (atomsT t) t (atomsT t).length []).1]]).length : Nat) : Int) > 60
      · simp only [if_pos h60]; exact skip _ _ _
      · simp only [if_neg h60]
        have hW := worlds t hs hd hr (by omega) (by rw [List.length_append] at h60; omega)
        have hne : ((((litT (atomsT t) t (atomsT t).length []).2.2 ++ [[(litT (atomsT t) t (atomsT t).length []).1]]).length : Int) == 0) = false := by
          rw [List.length_append]; simp; omega
        rw [hne]
        exact Ev.step (fun k => by rw [ashlarlaw07_CnfMeans.j0, if_neg (by decide)]) hW
  · simp only [if_neg he]; exact skip _ _ _
end Go.Proofs.YthckboogibhjaaaDoor.Pure
