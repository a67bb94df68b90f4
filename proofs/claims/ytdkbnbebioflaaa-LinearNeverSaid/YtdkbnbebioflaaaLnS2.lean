/- What Solve's loop answers: it fits, and it lies in memory as rows do. -/
import Derived.Test.YtdkbnbebioflaaaLnS1
namespace Go.Proofs.Ytdkbnbebioflaaa.Ln
open Go.RowKit Go.Proofs.Ytdkbnbebioflaaa.Num Go.Proofs.Ytdkbnbebioflaaa.Given Go.Proofs.Ytdkbnbebioflaaa.Lin Go.Proofs.YtdkbnbebioflaaaW.PrintWords
set_option linter.unusedVariables false
set_option linter.unusedSimpArgs false

theorem wholeF_in {n : Int} : ∀ {l : List Rat} {ws : List Int}, wholeF n l = some ws → ∀ x, x ∈ ws → In64 x
  | [], ws, h, x, hx => by rw [wholeF] at h; cases h; cases hx
  | y :: l, ws, h, x, hx => by
    rw [wholeF] at h
    obtain ⟨z, hz, h2⟩ := bind_some' h
    obtain ⟨r, hr, h3⟩ := bind_some' h2
    cases h3
    rcases List.mem_cons.1 hx with rfl | hx
    · obtain ⟨e, hi⟩ := okI_some hz
      rw [e]; exact hi
    · exact wholeF_in hr x hx
theorem weights_in {vars : Nat} {t : Tab} {a : Nat} {ws : List Int} (h : weights vars t a = some ws) : ∀ x, x ∈ ws → In64 x := by
  unfold weights at h
  obtain ⟨l, _, h2⟩ := bind_some' h
  obtain ⟨n, _, h3⟩ := bind_some' h2
  exact wholeF_in h3
theorem loop_fit {vars : Nat} : ∀ (f : Nat) {t : Tab} (hW : WfT vars t) {a : Int} {p : List Rat} {ws : List Int}, loop vars f t = some (a, p, ws) → (∀ x, x ∈ p → Fit x) ∧ (∀ x, x ∈ ws → In64 x) := by
  intro f
  induction f with
  | zero =>
    intro t hW a p ws h
    rw [loop] at h
    cases hw : wrong vars t with
    | none =>
      rw [hw] at h
      cases h
      exact ⟨fun x hx => fit_mem hW.fv (List.mem_of_mem_take hx), fun x hx => by cases hx⟩
    | some i =>
      rw [hw] at h
      simp only at h
      cases hh : helps vars t i with
      | none =>
        rw [hh] at h
        obtain ⟨w, hw', e⟩ := Option.map_eq_some_iff.1 h
        cases e
        exact ⟨fun x hx => (by cases hx), weights_in hw'⟩
      | some v =>
        rw [hh] at h
        cases h
        exact ⟨fun x hx => (by cases hx), fun x hx => by cases hx⟩
  | succ f ih =>
    intro t hW a p ws h
    rw [loop] at h
    cases hw : wrong vars t with
    | none =>
      rw [hw] at h
      cases h
      exact ⟨fun x hx => fit_mem hW.fv (List.mem_of_mem_take hx), fun x hx => by cases hx⟩
    | some i =>
      rw [hw] at h
      simp only at h
      obtain ⟨hi, hv⟩ := wrong_in t.basic.length 0 none (by omega) (fun b hb => by cases hb) i hw
      cases hh : helps vars t i with
      | none =>
        rw [hh] at h
        obtain ⟨w, hw', e⟩ := Option.map_eq_some_iff.1 h
        cases e
        exact ⟨fun x hx => (by cases hx), weights_in hw'⟩
      | some v =>
        rw [hh] at h
        obtain ⟨t', ht', h2⟩ := bind_some' h
        have hir : i < t.rows.length := by have := hW.bl; have := hW.rl; omega
        obtain ⟨hvl, _⟩ := helps_in (vars := vars) (t := t) (rdR t.rows i).length 0 (by omega) v hh
        exact ih (exch_wf hW hir (by rw [← hW.cl i hir]; exact hvl) ht') h2
theorem right_of {x : Rat} (h : Fit x) : rightS (ofQ x) = true := by
  have e := mk_low (low_q x) (fit64 h).1 (fit64 h).2
  unfold rightS rightPQ ofQ
  simp only [e, beq_self_eq_true, Bool.and_self]
theorem toQ_of (x : Rat) : toQ (ofQ x) = x := by
  unfold toQ ofQ
  rw [Int.toNat_natCast]
  exact Rat.mkRat_self x
theorem chkP_of {l : List S38} {p : List Rat} (h : ∀ x, x ∈ p → Fit x) : chkP l (p.map ofQ) = checkPoint (l.map toZ) p := by
  unfold chkP
  have e1 : (p.map ofQ).all rightS = true := by
    rw [List.all_eq_true]
    intro y hy
    obtain ⟨x, hx, rfl⟩ := List.mem_map.1 hy
    exact right_of (h x hx)
  have e2 : (p.map ofQ).map toQ = p := by
    rw [List.map_map]
    conv => rhs; rw [← List.map_id p]
    exact List.map_congr_left fun x _ => toQ_of x
  rw [e1, e2, Bool.true_and]
theorem reps_Q (w : World) (base : Nat) (ok : Nat → Prop) : ∀ (p : List Rat), Reps (k29.M w base ok) 2 (p.map ofQ) (flatQ p) := by
  intro p
  refine ⟨by rw [flatQ_len, List.length_map], fun j x hx => ?_⟩
  rw [List.getElem?_map] at hx
  obtain ⟨y, hy, rfl⟩ := Option.map_eq_some_iff.1 hx
  obtain ⟨hj, e⟩ := List.getElem?_eq_some_iff.1 hy
  obtain ⟨a, b⟩ := flatQ_get hj
  rw [e] at a b
  have hl : j * 2 + 1 < (flatQ p).length := by rw [flatQ_len]; omega
  refine ⟨[.int .i64 y.num], [.int .i64 y.den], ?_, rfl, rfl⟩
  apply List.ext_getElem?
  intro i
  rw [List.getElem?_take]
  match i with
  | 0 => simp [a]
  | 1 => simp [b]
  | i + 2 => simp; omega
theorem RowQ.toR {w : World} {base : Nat} {v : Value} {p : List Rat} (h : RowQ w base v p) : k29.R 29 w base (fun k => base ≤ k) v (p.map ofQ) := by
  refine ⟨fun k hk => ?_, flatQ p, ?_, reps_Q w base _ p⟩
  · obtain ⟨_, _, hg⟩ := own_blk_ty h hk
    exact hg
  · rw [List.length_map]; exact h
theorem reps_I (w : World) (base : Nat) (ok : Nat → Prop) : ∀ (p : List Int), Reps ((Kd.int .i64).M w base ok) 1 p (intv p) := by
  intro p
  refine ⟨by simp [intv], fun j x hx => ?_⟩
  obtain ⟨hj, e⟩ := List.getElem?_eq_some_iff.1 hx
  have : ((intv p).drop (j * 1)).take 1 = [.int .i64 x] := by
    rw [Nat.mul_one, List.drop_eq_getElem_cons (by simpa [intv] using hj)]
    simp [intv, e]
  rw [this]
  rfl
theorem RowI.toR {w : World} {base : Nat} {v : Value} {p : List Int} (h : RowI w base v p) : (Kd.int .i64).R 2 w base (fun k => base ≤ k) v p := by
  refine ⟨fun k hk => ?_, intv p, h, reps_I w base _ p⟩
  obtain ⟨_, _, hg⟩ := own_blk_ty h hk
  exact hg

end Go.Proofs.Ytdkbnbebioflaaa.Ln
