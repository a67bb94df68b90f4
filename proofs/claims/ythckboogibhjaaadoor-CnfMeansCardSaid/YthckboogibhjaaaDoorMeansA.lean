/- Plain: holds, known, Find and truth of CnfMeans. -/
import Derived.Test.YthckboogibhjaaaDoorPCnfMeansx1
import Derived.Test.YthckboogibhjaaaDoorPCnfMeansx3
import Derived.Test.YthckboogibhjaaaDoorTrmMf
namespace Go.Proofs.YthckboogibhjaaaDoor.Pure
set_option linter.unusedVariables false
set_option linter.unusedSimpArgs false
open Go.RowKit Go.Proofs.YthckboogibhjaaaDoor.Trm Go.Proofs.YthckboogibhjaaaDoor.PCnfMeans Go.Proofs.YthckboogibhjaaaDoorW.PrintWords Go.Proofs.YthckboogibhjaaaDoorW.PrintMore

/-- A row of booleans, as variables. -/
def vr (xs : List Bool) : Nat → Bool := fun i => xs.getD i false

/-- holds. -/
theorem holds_ev (c : List Int) (xs : List Bool) (hb : ∀ x, x ∈ c → x.natAbs < xs.length) (hn : xs.length ≤ 1000000) (hc : c.length ≤ 1000000) : Ev (fun k => ashlarlaw07_holds.f k c xs) (ev (vr xs) c) := by
  have loop : ∀ (d i : Nat), i + d = c.length → Ev (fun k => ashlarlaw07_holds.l0 k c xs (i : Int)) ((c.drop i).any (lv (vr xs))) := by
    intro d
    induction d with
    | zero =>
      intro i hi
      have hp : ¬ ((i : Int) < (c.length : Int)) := by omega
      rw [List.drop_of_length_le (by omega)]
      exact Ev.step (f := fun _ => some false) (fun k => by rw [ashlarlaw07_holds.l0, if_neg hp]) (Ev.now _)
    | succ d ih =>
      intro i hi
      have hil : i < c.length := by omega
      have hp : (i : Int) < (c.length : Int) := by omega
      have hp0 : (0 : Int) ≤ (i : Int) := Int.natCast_nonneg i
      have e2 : wrap64 ((i : Int) + 1) = ((i + 1 : Nat) : Int) := wrapj (by omega)
      have hx := hb c[i] (List.getElem_mem hil)
      have erd : rd c (i : Int) = c[i] := by simp [rd, List.getElem?_eq_getElem hil]
      have hn := ih (i + 1) (by omega)
      rw [List.drop_eq_getElem_cons hil, List.any_cons]
      generalize hg : c[i] = x at erd hx ⊢
      have key : Ev (fun k => if x > 0 then (if 0 ≤ x then (if x < (xs.length : Int) then (if rdOf false xs x = true then (some true) else (if x < 0 then (if 0 ≤ (wrap64 (-x)) then (if (wrap64 (-x)) < (xs.length : Int) then (if (rdOf false xs (wrap64 (-x)) = true) then (ashlarlaw07_holds.l0 k c xs ((i + 1 : Nat) : Int)) else (some true)) else (none)) else (none)) else (ashlarlaw07_holds.l0 k c xs ((i + 1 : Nat) : Int)))) else (none)) else (none)) else (if x < 0 then (if 0 ≤ (wrap64 (-x)) then (if (wrap64 (-x)) < (xs.length : Int) then (if (rdOf false xs (wrap64 (-x)) = true) then (ashlarlaw07_holds.l0 k c xs ((i + 1 : Nat) : Int)) else (some true)) else (none)) else (none)) else (ashlarlaw07_holds.l0 k c xs ((i + 1 : Nat) : Int)))) (lv (vr xs) x || (c.drop (i + 1)).any (lv (vr xs))) := by
        rcases (show 0 < x ∨ x < 0 ∨ x = 0 by omega) with h | h | h
        · have h1 : x > 0 := h
          have h2 : 0 ≤ x := by omega
          have h3 : x < (xs.length : Int) := by omega
          have h4 : ¬ x < 0 := by omega
          simp only [if_pos h1, if_pos h2, if_pos h3, if_neg h4]
          have el : lv (vr xs) x = rdOf false xs x := by unfold lv; rw [if_pos h]; rfl
          rw [el]
          cases hr : rdOf false xs x with
          | true => simpa using Ev.now true
          | false => simpa using hn
        · have h1 : ¬ x > 0 := by omega
          have w : wrap64 (-x) = -x := w_small (by omega) (by omega)
          rw [w]
          have h2 : 0 ≤ -x := by omega
          have h3 : -x < (xs.length : Int) := by omega
          simp only [if_neg h1, if_pos h, if_pos h2, if_pos h3]
          have el : lv (vr xs) x = !(rdOf false xs (-x)) := by unfold lv; rw [if_neg (by omega), if_pos h]; rfl
          rw [el]
          cases hr : rdOf false xs (-x) with
          | false => simpa using Ev.now true
          | true => simpa using hn
        · have h1 : ¬ x > 0 := by omega
          have h2 : ¬ x < 0 := by omega
          simp only [if_neg h1, if_neg h2]
          have el : lv (vr xs) x = false := by unfold lv; rw [if_neg (by omega), if_neg h2]
          rw [el]; simpa using hn
      exact Ev.step (fun k => by rw [ashlarlaw07_holds.l0, if_pos hp, if_pos hp0, erd, e2]) key
  have := loop c.length 0 (by omega)
  rw [List.drop_zero] at this
  exact this

/-- known. -/
theorem known_ev (l : List (List Int)) (xs : List Bool) (v : Nat) (hb : ∀ c, c ∈ l → c.length ≤ 1000000 ∧ ∀ x, x ∈ c → x.natAbs < xs.length) (hn : xs.length ≤ 1000000) (hl : l.length ≤ 1000000) :
    Ev (fun k => ashlarlaw07_known.f k l xs (v : Int)) (l.all fun c => decide (v < mv c) || ev (vr xs) c) := by
  have outer : ∀ (d i : Nat), i + d = l.length → Ev (fun k => ashlarlaw07_known.l0 k l xs (v : Int) (i : Int)) ((l.drop i).all fun c => decide (v < mv c) || ev (vr xs) c) := by
    intro d
    induction d with
    | zero =>
      intro i hi
      have hp : ¬ ((i : Int) < (l.length : Int)) := by omega
      rw [List.drop_of_length_le (by omega)]
      exact Ev.step (f := fun _ => some true) (fun k => by rw [ashlarlaw07_known.l0, if_neg hp]) (Ev.now _)
    | succ d ih =>
      intro i hi
      have hil : i < l.length := by omega
      have hp : (i : Int) < (l.length : Int) := by omega
      have hp0 : (0 : Int) ≤ (i : Int) := Int.natCast_nonneg i
      have e2 : wrap64 ((i : Int) + 1) = ((i + 1 : Nat) : Int) := wrapj (by omega)
      have hcc := hb l[i] (List.getElem_mem hil)
      have erd : rd_L2 l (i : Int) = l[i] := by simp [rd_L2, List.getElem?_eq_getElem hil]
      have hnx := ih (i + 1) (by omega)
      rw [List.drop_eq_getElem_cons hil, List.all_cons]
      generalize hR : ((l.drop (i + 1)).all fun c => decide (v < mv c) || ev (vr xs) c) = R at hnx ⊢
      generalize hg : l[i] = c at erd hcc ⊢
      have inner : ∀ (m j : Nat) (b : Bool), j + m = c.length → Ev (fun k => ashlarlaw07_known.l1 k l xs (v : Int) (i : Int) b (j : Int)) (((b || decide (v < mv (c.drop j))) || ev (vr xs) c) && R) := by
        intro m
        induction m with
        | zero =>
          intro j b hj
          have hq : ¬ ((j : Int) < (c.length : Int)) := by omega
          rw [List.drop_of_length_le (by omega)]
          have e0 : decide (v < mv []) = false := by rw [mv]; simp
          rw [e0, Bool.or_false]
          cases b with
          | true => exact Ev.step (fun k => by rw [ashlarlaw07_known.l1, if_pos hp0, if_pos hp, erd, if_neg hq, if_pos rfl, e2]) (by simpa using hnx)
          | false =>
            refine Ev.step (f := fun k => (ashlarlaw07_holds.f k c xs).bind fun t => if t = true then ashlarlaw07_known.l0 k l xs (v : Int) ((i + 1 : Nat) : Int) else some false) (fun k => by rw [ashlarlaw07_known.l1, if_pos hp0, if_pos hp, erd, if_neg hq, if_neg (by decide), e2]) ?_
            refine Ev.bind (holds_ev c xs hcc.2 hn hcc.1) ?_
            rw [Bool.false_or]
            cases hv : ev (vr xs) c with
            | true => simpa using hnx
            | false => simpa using Ev.now false
        | succ m ihm =>
          intro j b hj
          have hjl : j < c.length := by omega
          have hq : (j : Int) < (c.length : Int) := by omega
          have hq0 : (0 : Int) ≤ (j : Int) := Int.natCast_nonneg j
          have e3 : wrap64 ((j : Int) + 1) = ((j + 1 : Nat) : Int) := wrapj (by omega)
          have erd2 : rd c (j : Int) = c[j] := by simp [rd, List.getElem?_eq_getElem hjl]
          rw [List.drop_eq_getElem_cons hjl, mv]
          cases b with
          | true =>
            have := ihm (j + 1) true (by omega)
            exact Ev.step (fun k => by rw [ashlarlaw07_known.l1, if_pos hp0, if_pos hp, erd, if_pos hq, if_pos rfl, e3]) (by simpa using this)
          | false =>
            have hx := hcc.2 c[j] (List.getElem_mem hjl)
            generalize c[j] = x at erd2 hx ⊢
            have em : mx x (wrap64 (-x)) = (x.natAbs : Int) := by
              have w : wrap64 (-x) = -x := neg64 (by omega) (by omega)
              rw [w]; unfold mx; split <;> omega
            have eb : decide (mx x (wrap64 (-x)) > (v : Int)) = decide (v < x.natAbs) := by rw [em]; exact decide_eq_decide.2 (by omega)
            have := ihm (j + 1) (decide (v < x.natAbs)) (by omega)
            have ec : (decide (v < x.natAbs) || decide (v < mv (c.drop (j + 1)))) = (false || decide (v < max x.natAbs (mv (c.drop (j + 1))))) := by
              rw [Bool.false_or, Bool.eq_iff_iff]; simp; omega
            rw [ec] at this
            exact Ev.step (fun k => by rw [ashlarlaw07_known.l1, if_pos hp0, if_pos hp, erd, if_pos hq, if_neg (by decide), if_pos hq0, erd2, eb, e3]) this
      have := inner c.length 0 false (by omega)
      rw [List.drop_zero, Bool.false_or] at this
      exact Ev.step (fun k => by rw [ashlarlaw07_known.l0, if_pos hp]; rfl) this
  have := outer l.length 0 (by omega)
  rw [List.drop_zero] at this
  exact this

/-- Find. -/
theorem Find_ev (l : List S24) (t : S24) (hl : ∀ x, x ∈ l → fine x) (ht : fine t) (hn : l.length ≤ 1000000) : Ev (fun k => ashlarref07_Find.f k l t.f0 t.f1 t.f2 t.f3) (findT l t 0) := by
  have loop : ∀ (d i : Nat), i + d = l.length → Ev (fun k => ashlarref07_Find.l0 k l (i : Int) t.f0 t.f1 t.f2 t.f3) (findT (l.drop i) t i) := by
    intro d
    induction d with
    | zero =>
      intro i hi
      have hp : ¬ ((i : Int) < (l.length : Int)) := by omega
      rw [List.drop_of_length_le (by omega), findT]
      exact Ev.step (f := fun _ => some (-1)) (fun k => by rw [ashlarref07_Find.l0, if_neg hp]) (Ev.now _)
    | succ d ih =>
      intro i hi
      have hil : i < l.length := by omega
      have hp : (i : Int) < (l.length : Int) := by omega
      have hp0 : (0 : Int) ≤ (i : Int) := Int.natCast_nonneg i
      have e2 : wrap64 ((i : Int) + 1) = ((i + 1 : Nat) : Int) := wrapj (by omega)
      have hnx := ih (i + 1) (by omega)
      rw [List.drop_eq_getElem_cons hil, findT]
      refine Ev.step (f := fun k => (ashlarref03_Same.f k l[i].f0 l[i].f1 l[i].f2 l[i].f3 t.f0 t.f1 t.f2 t.f3).bind fun z => if z = true then some (i : Int) else ashlarref07_Find.l0 k l ((i + 1 : Nat) : Int) t.f0 t.f1 t.f2 t.f3) (fun k => by rw [ashlarref07_Find.l0, if_pos hp, if_pos hp0, rd_get hil, e2]) ?_
      refine Ev.bind (Same_ev l[i] t (hl _ (List.getElem_mem hil)) ht) ?_
      cases hs : sameB l[i] t with
      | true => simpa using Ev.now (i : Int)
      | false => simpa using hnx
  have := loop l.length 0 (by omega)
  rw [List.drop_zero] at this
  exact this

/-- An atom's bit. -/
def bitO (s : Int) (i : Nat) : Bool := Go.bits .and .u64 (shr .u64 s (i : Int)) 1 == 1
theorem truthT_mk (ats : List S24) (bit : Nat → Bool) (t : S24) : truthT ats bit t = if joinsB t.f0 = true then (if t.f0 = 18 then !((truthL ats bit t.f3).headD false) else opV t.f0 (truthL ats bit t.f3)) else bit (findT ats t 0).toNat := by cases t; rw [truthT]
theorem allF_mk (s : List S24) (t : S24) : allF s t = if joinsB t.f0 = true then allFL s t.f3 else 0 ≤ findT s t 0 := by cases t; rw [allF]
theorem allFL_get {s : List S24} : ∀ {l : List S24}, allFL s l → ∀ {j : Nat} (h : j < l.length), allF s l[j]
  | x :: l, h, 0, hj => by rw [allFL] at h; exact h.1
  | x :: l, h, j + 1, hj => by rw [allFL] at h; exact allFL_get h.2 (by simpa using hj)
theorem truthL_drop (ats : List S24) (bit : Nat → Bool) {l : List S24} {i : Nat} (h : i < l.length) : truthL ats bit (l.drop i) = truthT ats bit l[i] :: truthL ats bit (l.drop (i + 1)) := by rw [List.drop_eq_getElem_cons h, truthL]
theorem u64_small {x : Int} (h : 0 ≤ x) (h2 : x ≤ 1000000) : IntKind.u64.wrap x = x := by rw [IntKind.wrap_u64]; omega

/-- truth. -/
theorem truth_ev (ats : List S24) (s : Int) (hats : ∀ x, x ∈ ats → fine x) (hal : ats.length ≤ 1000000) : ∀ (n : Nat) (t : S24), tsize t ≤ n → tsize t ≤ 1000000 → (∃ want, rightT t want = true) → allF ats t → Ev (fun k => ashlarlaw07_truth.f k ats s t.f0 t.f1 t.f2 t.f3) (truthT ats (bitO s) t) := by
  intro n
  induction n with
  | zero => intro t ht; rw [tsize_mk] at ht; omega
  | succ n ih =>
    intro t ht hs hr hf
    obtain ⟨want, hr⟩ := hr
    have hparts := @right_part t want hr
    have hts := tsize_mk t
    have hll := len_lsize t.f3
    rw [truthT_mk]
    rw [allF_mk] at hf
    by_cases hj : joinsB t.f0 = true
    · rw [if_pos hj] at hf ⊢
      have part : ∀ {i : Nat} (h : i < t.f3.length), Ev (fun k => ashlarlaw07_truth.f k ats s t.f3[i].f0 t.f3[i].f1 t.f3[i].f2 t.f3[i].f3) (truthT ats (bitO s) t.f3[i]) := fun {i} h => by
        have hsz := lsize_mem (List.getElem_mem h)
        exact ih _ (by omega) (by omega) (hparts h) (allFL_get hf h)
      have h16 : 16 ≤ t.f0 ∧ t.f0 ≤ 21 := by unfold joinsB at hj; simp at hj; exact hj
      rcases (show t.f0 = 16 ∨ t.f0 = 17 ∨ t.f0 = 18 ∨ t.f0 = 19 ∨ t.f0 = 20 ∨ t.f0 = 21 by omega) with h | h | h | h | h | h
      · rw [if_neg (by omega), opV, if_pos h]
        exact Ev.step (f := fun _ => some true) (fun k => by rw [ashlarlaw07_truth.f, if_pos h]) (Ev.now _)
      · rw [if_neg (by omega), opV, if_neg (by omega), if_pos h]
        exact Ev.step (f := fun _ => some false) (fun k => by rw [ashlarlaw07_truth.f, if_neg (by omega), if_pos h]) (Ev.now _)
      · rw [if_pos h]
        have hl1 : t.f3.length = 1 := by
          have hr1 := hr
          rw [rightT_mk, if_neg (by omega), Bool.and_eq_true, h] at hr1
          exact ok_len hr1.1 rfl
        have h0 : 0 < t.f3.length := by omega
        have e0 : (0 : Int) < (t.f3.length : Int) := by omega
        have er : rd_T24 t.f3 0 = t.f3[0] := rd_get h0
        have eh : (truthL ats (bitO s) t.f3).headD false = truthT ats (bitO s) t.f3[0] := by
          have := truthL_drop ats (bitO s) h0
          rw [List.drop_zero] at this
          rw [this]; rfl
        rw [eh]
        refine Ev.step (f := fun k => (ashlarlaw07_truth.f k ats s t.f3[0].f0 t.f3[0].f1 t.f3[0].f2 t.f3[0].f3).bind fun z => some (!z)) (fun k => by rw [ashlarlaw07_truth.f, if_neg (by omega), if_neg (by omega), if_pos h, if_pos e0, er]) ?_
        exact Ev.bind (part h0) (Ev.now _)
      · rw [if_neg (by omega), opV, if_neg (by omega), if_neg (by omega), if_pos h]
        have loop : ∀ (d i : Nat) (b : Bool), i + d = t.f3.length → Ev (fun k => ashlarlaw07_truth.l0 k ats s b (i : Int) t.f0 t.f1 t.f2 t.f3) (b && (truthL ats (bitO s) (t.f3.drop i)).all id) := by
          intro d
          induction d with
          | zero =>
            intro i b hi
            have hp : ¬ ((i : Int) < (t.f3.length : Int)) := by omega
            rw [List.drop_of_length_le (by omega), truthL]
            exact Ev.step (f := fun _ => some b) (fun k => by rw [ashlarlaw07_truth.l0, if_neg hp]) (by simpa using Ev.now b)
          | succ d ihd =>
            intro i b hi
            have hil : i < t.f3.length := by omega
            have hp : (i : Int) < (t.f3.length : Int) := by omega
            have hp0 : (0 : Int) ≤ (i : Int) := Int.natCast_nonneg i
            have e2 : wrap64 ((i : Int) + 1) = ((i + 1 : Nat) : Int) := wrapj (by omega)
            rw [truthL_drop ats (bitO s) hil, List.all_cons]
            refine Ev.step (f := fun k => (ashlarlaw07_truth.f k ats s t.f3[i].f0 t.f3[i].f1 t.f3[i].f2 t.f3[i].f3).bind fun z => if b = true then ashlarlaw07_truth.l0 k ats s z ((i + 1 : Nat) : Int) t.f0 t.f1 t.f2 t.f3 else ashlarlaw07_truth.l0 k ats s false ((i + 1 : Nat) : Int) t.f0 t.f1 t.f2 t.f3) (fun k => by rw [ashlarlaw07_truth.l0, if_pos hp, if_pos hp0, rd_get hil, e2]) ?_
            refine Ev.bind (part hil) ?_
            cases b with
            | true => simpa using ihd (i + 1) _ (by omega)
            | false => simpa using ihd (i + 1) false (by omega)
        have := loop t.f3.length 0 true (by omega)
        rw [List.drop_zero, Bool.true_and] at this
        exact Ev.step (fun k => by rw [ashlarlaw07_truth.f, if_neg (by omega), if_neg (by omega), if_neg (by omega), if_neg (by omega), if_pos h]; rfl) this
      · rw [if_neg (by omega), opV, if_neg (by omega), if_neg (by omega), if_neg (by omega), if_neg (by omega)]
        have loop : ∀ (d i : Nat) (b : Bool), i + d = t.f3.length → Ev (fun k => ashlarlaw07_truth.l1 k ats s b (i : Int) t.f0 t.f1 t.f2 t.f3) (b || (truthL ats (bitO s) (t.f3.drop i)).any id) := by
          intro d
          induction d with
          | zero =>
            intro i b hi
            have hp : ¬ ((i : Int) < (t.f3.length : Int)) := by omega
            rw [List.drop_of_length_le (by omega), truthL]
            exact Ev.step (f := fun _ => some b) (fun k => by rw [ashlarlaw07_truth.l1, if_neg hp]) (by simpa using Ev.now b)
          | succ d ihd =>
            intro i b hi
            have hil : i < t.f3.length := by omega
            have hp : (i : Int) < (t.f3.length : Int) := by omega
            have hp0 : (0 : Int) ≤ (i : Int) := Int.natCast_nonneg i
            have e2 : wrap64 ((i : Int) + 1) = ((i + 1 : Nat) : Int) := wrapj (by omega)
            rw [truthL_drop ats (bitO s) hil, List.any_cons]
            refine Ev.step (f := fun k => (ashlarlaw07_truth.f k ats s t.f3[i].f0 t.f3[i].f1 t.f3[i].f2 t.f3[i].f3).bind fun z => if b = true then ashlarlaw07_truth.l1 k ats s true ((i + 1 : Nat) : Int) t.f0 t.f1 t.f2 t.f3 else ashlarlaw07_truth.l1 k ats s z ((i + 1 : Nat) : Int) t.f0 t.f1 t.f2 t.f3) (fun k => by rw [ashlarlaw07_truth.l1, if_pos hp, if_pos hp0, rd_get hil, e2]) ?_
            refine Ev.bind (part hil) ?_
            cases b with
            | true => simpa using ihd (i + 1) true (by omega)
            | false => simpa using ihd (i + 1) _ (by omega)
        have := loop t.f3.length 0 false (by omega)
        rw [List.drop_zero, Bool.false_or] at this
        exact Ev.step (fun k => by rw [ashlarlaw07_truth.f, if_neg (by omega), if_neg (by omega), if_neg (by omega), if_neg (by omega), if_neg (by omega), if_pos h]; rfl) this
      · rw [if_neg (by omega), opV, if_neg (by omega), if_neg (by omega), if_neg (by omega), if_pos h]
        have hl2 := imp_two hr h
        have h0 : 0 < t.f3.length := by omega
        have h1 : 1 < t.f3.length := by omega
        have e0 : (0 : Int) < (t.f3.length : Int) := by omega
        have e1 : (1 : Int) < (t.f3.length : Int) := by omega
        have er : rd_T24 t.f3 0 = t.f3[0] := rd_get h0
        have er1 : rd_T24 t.f3 1 = t.f3[1] := rd_get h1
        have eh : truthL ats (bitO s) t.f3 = [truthT ats (bitO s) t.f3[0], truthT ats (bitO s) t.f3[1]] := by
          have a := truthL_drop ats (bitO s) h0
          have b := truthL_drop ats (bitO s) h1
          rw [List.drop_zero] at a
          rw [a, b, List.drop_of_length_le (by omega), truthL]
        rw [eh]
        refine Ev.step (f := fun k => (ashlarlaw07_truth.f k ats s t.f3[0].f0 t.f3[0].f1 t.f3[0].f2 t.f3[0].f3).bind fun z => if z = true then ((ashlarlaw07_truth.f k ats s t.f3[1].f0 t.f3[1].f1 t.f3[1].f2 t.f3[1].f3).bind fun y => some y) else some true) (fun k => by rw [ashlarlaw07_truth.f, if_neg (by omega), if_neg (by omega), if_neg (by omega), if_pos h, if_pos e0, er, er1]; simp only [if_pos e1]) ?_
        refine Ev.bind (part h0) ?_
        cases hx : truthT ats (bitO s) t.f3[0] with
        | true => simpa using Ev.bind (part h1) (Ev.now _)
        | false => simpa using Ev.now true
    · rw [if_neg hj] at hf ⊢
      have hno : t.f0 < 16 ∨ 21 < t.f0 := by unfold joinsB at hj; simp at hj; omega
      have hle := findT_le t ats 0
      have hF := Find_ev ats t hats (fine_small t hs) hal
      generalize findT ats t 0 = g at hF hf hle ⊢
      have eg : IntKind.u64.wrap g = g := u64_small hf (by omega)
      refine Ev.step (f := fun k => (ashlarref07_Find.f k ats t.f0 t.f1 t.f2 t.f3).bind fun z => if 0 ≤ IntKind.u64.wrap z then some (Go.bits .and .u64 (shr .u64 s (IntKind.u64.wrap z)) 1 == 1) else none) (fun k => by rw [ashlarlaw07_truth.f, if_neg (by omega), if_neg (by omega), if_neg (by omega), if_neg (by omega), if_neg (by omega), if_neg (by omega)]) ?_
      refine Ev.bind hF ?_
      simp only [eg, if_pos hf]
      unfold bitO
      rw [show ((g.toNat : Nat) : Int) = g by omega]
      exact Ev.now _
end Go.Proofs.YthckboogibhjaaaDoor.Pure
