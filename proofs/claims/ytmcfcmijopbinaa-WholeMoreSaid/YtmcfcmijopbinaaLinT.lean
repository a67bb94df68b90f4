import Derived.Test.YtmcfcmijopbinaaLinQ
import Derived.Test.YtmcfcmijopbinaaNumF
import Derived.Test.YtmcfcmijopbinaaNumS
section
/- Plain: linear.Solve, and what it answers of small rows. -/
namespace Go.Proofs.Ytmcfcmijopbinaa.Lin
open Go.RowKit Go.Proofs.Ytmcfcmijopbinaa.Given Go.Proofs.Ytmcfcmijopbinaa.Num Go.Proofs.Ytmcfcmijopbinaa.Sim
set_option linter.unusedVariables false
set_option linter.unusedSimpArgs false
def limF : List RowZ → Option (List Rat)
 | [] => some []
 | r :: l => (okI (-r.2)).bind fun x => (limF l).bind fun t => some ((x : Rat) :: t)
def made (rows : List RowZ) (vars : Nat) : Option Tab :=
 (limF rows).bind fun lim => some ⟨(List.range rows.length).map (vars + ·), rows.map (fun r => r.1.map (fun c : Int => (c : Rat)) ++ List.replicate (vars + rows.length - r.1.length) 0), List.replicate (vars + rows.length) 0, lim⟩
def mayQ (rows : List RowZ) (vars : Int) : Bool := decide (0 ≤ vars) && decide (vars ≤ 64) && decide (rows.length ≤ 256) && rows.all (fun r => decide ((r.1.length : Int) = vars))
def solve (rows : List RowZ) (vars fuel : Int) : Int × List Rat × List Int :=
 if mayQ rows vars = true then
  match (made rows vars.toNat).bind (loop vars.toNat fuel.toNat) with
  | none => (0, [], [])
  | some (a, p, w) => if a = 1 ∧ checkPoint rows p = false ∨ a = 2 ∧ checkFarkas rows w = false then (0, [], []) else (a, p, w)
 else (0, [], [])
structure SmallZ (rows : List RowZ) (vars : Nat) : Prop where
 three : vars ≤ 3
 len : ∀ r, r ∈ rows → r.1.length = vars
 few : rows.length ≤ 64
 c9 : ∀ r, r ∈ rows → ∀ c, c ∈ r.1 → c.natAbs ≤ 9
 k9 : ∀ r, r ∈ rows → r.2.natAbs ≤ 9
def quZ (rows : List RowZ) (vars : Nat) : Qu := ⟨vars, rows.length, fun j k => (cz rows j k : Rat), fun v => ((-(kz rows (v - vars)) : Int) : Rat)⟩
theorem row_get {rows : List RowZ} {j : Nat} (h : j < rows.length) : rows.getD j ([], 0) = rows[j] := by simp [List.getElem?_eq_getElem h]
theorem row_beyond {rows : List RowZ} {j : Nat} (h : ¬ j < rows.length) : rows.getD j ([], 0) = ([], 0) := by simp [List.getElem?_eq_none (show rows.length ≤ j by omega)]
theorem getD_le {l : List Int} {B : Nat} (h : ∀ c, c ∈ l → c.natAbs ≤ B) (k : Nat) : (l.getD k 0).natAbs ≤ B := by
 by_cases hk : k < l.length
 ·have := h l[k] (List.getElem_mem hk); simpa [List.getElem?_eq_getElem hk] using this
 ·simp [List.getElem?_eq_none (show l.length ≤ k by omega)]
theorem cz_le {rows : List RowZ} {vars : Nat} (h : SmallZ rows vars) (j k : Nat) : (cz rows j k).natAbs ≤ 9 := by
 unfold cz
 by_cases hj : j < rows.length
 ·rw [row_get hj]; exact getD_le (h.c9 _ (List.getElem_mem hj)) k
 ·rw [row_beyond hj]; exact getD_le (fun c hc => by cases hc) k
theorem kz_le {rows : List RowZ} {vars : Nat} (h : SmallZ rows vars) (j : Nat) : (kz rows j).natAbs ≤ 9 := by
 unfold kz
 by_cases hj : j < rows.length
 ·rw [row_get hj]; exact h.k9 _ (List.getElem_mem hj)
 ·rw [row_beyond hj]; decide
theorem limF_is : ∀ {rows : List RowZ}, (∀ r, r ∈ rows → r.2.natAbs ≤ 9) → limF rows = some (rows.map fun r => ((-r.2 : Int) : Rat))
 | [], _ => rfl
 | r :: l, h => by
  have := h r (by simp)
  rw [limF, okI_in (by omega), Option.bind_some, limF_is (fun x hx => h x (by simp [hx]))]; rfl
theorem made_is {rows : List RowZ} {vars : Nat} (h : SmallZ rows vars) : ∃ t, made rows vars = some t ∧ Rep (quZ rows vars) t (Sim.start (quZ rows vars)) := by
 refine ⟨_, by unfold made; rw [limF_is h.k9]; rfl, ?_, ?_, fun i hi => ?_, ?_, ?_, fun i hi => ?_, fun i k hi hk => ?_, fun k hk => ?_, fun j hj => ?_⟩
 ·simp [quZ]
 ·simp [quZ]
 ·have hi' : i < rows.length := hi
  have := h.len _ (List.getElem_mem hi')
  simp [rdR, List.getElem?_eq_getElem hi', quZ, Qu.N, this]
 ·simp [quZ, Qu.N]
 ·simp [quZ]
 ·have hi' : i < rows.length := hi
  simp [rdN, Sim.start, quZ, List.getElem?_range hi']
 ·have hi' : i < rows.length := hi
  have hl := h.len _ (List.getElem_mem hi')
  have e0 : (Sim.start (quZ rows vars)).row i k = if k < vars then ((cz rows i k : Int) : Rat) else 0 := rfl
  rw [e0]
  unfold rdR
  rw [List.getD_eq_getElem?_getD, List.getElem?_map, List.getElem?_eq_getElem hi', Option.map_some, Option.getD_some]
  unfold rdQ
  rw [List.getD_eq_getElem?_getD, List.getElem?_append, List.length_map, hl]
  by_cases hkv : k < vars
  ·rw [if_pos hkv, if_pos hkv, List.getElem?_map, List.getElem?_eq_getElem (by omega)]
   simp only [Option.map_some, Option.getD_some]
   unfold cz
   rw [row_get hi', List.getD_eq_getElem?_getD, List.getElem?_eq_getElem (by omega), Option.getD_some]
  ·rw [if_neg hkv, if_neg hkv, List.getElem?_replicate]
   split <;> rfl
 ·unfold rdQ
  rw [List.getD_eq_getElem?_getD, List.getElem?_replicate]
  simp only [Sim.start]
  split <;> rfl
 ·have hj' : j < rows.length := hj
  unfold rdQ
  rw [List.getD_eq_getElem?_getD, List.getElem?_map, List.getElem?_eq_getElem hj', Option.map_some, Option.getD_some]
  show _ = ((-(kz rows (vars + j - vars)) : Int) : Rat)
  rw [show vars + j - vars = j by omega]
  unfold kz
  rw [row_get hj']
def Pt (rows : List RowZ) (vars : Nat) (x : Nat → Rat) : Prop := ∀ j, j < rows.length → sumN vars (fun k => (cz rows j k : Rat) * x k) + (kz rows j : Rat) ≤ 0
theorem farkas_none {rows : List RowZ} {vars : Nat} (h : ∀ r, r ∈ rows → r.1.length = vars) {w : List Int} (hw : checkFarkas rows w = true) (x : Nat → Rat) : ¬ Pt rows vars x := by
 obtain ⟨h0, h1, h2, h3, h4⟩ := farkas_true hw
 have hn : 0 < rows.length := List.length_pos_iff.2 h0
 have hl := h _ (List.getElem_mem hn)
 have h5 := (h2 0 hn).2
 rw [row_get hn, hl] at h5
 intro hp
 refine not_both (n := vars) (m := rows.length) (C := fun j k => (cz rows j k : Rat)) (K := fun j => (kz rows j : Rat)) (y := fun j => ((w.getD j 0 : Int) : Rat)) (x := x) hp (fun j hj => ?_) (fun k hk => h3 k (by omega)) h4
 have := Rat.intCast_le_intCast.2 (h2 j hj).1; exact this
theorem solve_small {rows : List RowZ} {vars : Nat} (h : SmallZ rows vars) {fuel : Nat} (hf : cnt (vars + rows.length) vars ≤ fuel + 1) :
  (∃ p, solve rows vars fuel = (1, p, []) ∧ p.length = vars ∧ checkPoint rows p = true ∧ Pt rows vars (rdQ p)) ∨ (∃ w, solve rows vars fuel = (2, [], w) ∧ checkFarkas rows w = true ∧ ∀ x, ¬ Pt rows vars x) := by
 have hs : Small (quZ rows vars) (cz rows) := ⟨h.three, fun _ _ => rfl, cz_le h⟩
 have hl : Lim (quZ rows vars) (fun v => -(kz rows (v - vars))) := ⟨fun _ => rfl, fun v => by have := kz_le h (v - vars); omega⟩
 obtain ⟨t, t1, t2⟩ := made_is h
 have he := loop_ends hs hl fuel (Run.zero _) t2 (by show cnt (vars + rows.length) vars ≤ _; omega)
 have hmay : mayQ rows vars = true := by
  unfold mayQ
  simp only [Bool.and_eq_true, decide_eq_true_eq, List.all_eq_true]
  have := h.three; have := h.few
  exact ⟨⟨⟨by omega, by omega⟩, by omega⟩, fun r hr => by rw [h.len r hr]⟩
 unfold solve
 rw [if_pos hmay, Int.toNat_natCast, Int.toNat_natCast, t1, Option.bind_some]
 change Ends (quZ rows vars) (loop vars fuel t) at he
 rcases he with ⟨p, e, pl, ⟨D, hD, hDl, hfr⟩, hp⟩ | ⟨w, e, wl, w0, wz, wn⟩
 ·rw [e]
  have pl' : p.length = vars := pl
  have hpt : Pt rows vars (rdQ p) := fun j hj => by
   have := hp j hj
   change sumN vars (fun k => (cz rows j k : Rat) * rdQ p k) ≤ ((-(kz rows (vars + j - vars)) : Int) : Rat) at this
   rw [show vars + j - vars = j by omega, Rat.intCast_neg] at this
   grind
  have hck : checkPoint rows p = true := by
   unfold checkPoint
   refine List.all_eq_true.2 fun r hr => ?_
   obtain ⟨j, hj, rfl⟩ := List.getElem_of_mem hr
   unfold checkRow
   have hlen := h.len _ hr
   rw [Bool.and_eq_true, decide_eq_true_eq]
   refine ⟨by omega, ?_⟩
   have fk : Frac D (9 * 4374) (rows[j].2 : Rat) := Frac.int D hDl (h.k9 _ hr)
   have h3 := h.three
   obtain ⟨s, hh⟩ := holdF_is hD hDl (cs := rows[j].1) (xs := p) (by omega) (h.c9 _ hr) (fun x hx => by
    obtain ⟨k, hk, rfl⟩ := rdQ_mem hx
    exact hfr k (by show k < vars; omega)) fk (by omega)
   rw [hh]
   have hsum := holdF_some (by omega) hh
   have h4 := hpt j hj
   unfold cz kz at h4
   rw [row_get hj] at h4
   rw [hlen] at hsum
   simp only [decide_eq_true_eq]
   rw [hsum]; grind
  refine .inl ⟨p, ?_, pl', hck, hpt⟩
  show (if (1 : Int) = 1 ∧ checkPoint rows p = false ∨ (1 : Int) = 2 ∧ checkFarkas rows [] = false then ((0, [], []) : Int × List Rat × List Int) else (1, p, [])) = _
  rw [if_neg (by rw [hck]; simp)]
 ·rw [e]
  have wl' : w.length = rows.length := wl
  have hne : rows ≠ [] := by
   intro e0
   have h0 : rows.length = 0 := by rw [e0]; rfl
   have : sumN rows.length (fun j => ((w.getD j 0 : Int) : Rat) * (quZ rows vars).lim (vars + j)) < 0 := wn
   rw [h0, sumN] at this
   grind
  have hw1 : widthZ rows = vars := by
   cases hr : rows with
   | nil => exact absurd hr hne
   | cons r l => exact h.len r (by rw [hr]; simp)
  have w9 : ∀ x, x ∈ w → x.natAbs ≤ 19131876 ∧ 0 ≤ x := fun x hx => by
   obtain ⟨j, hj, rfl⟩ := List.getElem_of_mem hx
   have := w0 j (by show j < rows.length; omega)
   rw [List.getD_eq_getElem?_getD, List.getElem?_eq_getElem hj, Option.getD_some] at this
   exact ⟨this.2, this.1⟩
  have hfew := h.few
  have hck : checkFarkas rows w = true := by
   unfold checkFarkas
   rw [hw1]
   simp only [Bool.and_eq_true, decide_eq_true_eq, List.all_eq_true, List.mem_range, beq_iff_eq]
   refine ⟨⟨⟨⟨⟨wl'.symm, fun x hx => (w9 x hx).2⟩, hne⟩, fun r hr => h.len r hr⟩, fun k hk => ?_⟩, ?_⟩
   ·obtain ⟨r, hr⟩ := weighF_is (ws := w) (cs := colZ rows k) (s := 0) (B := 0) (by unfold colZ; rw [List.length_map]; exact wl') (fun c hc => by
     unfold colZ at hc
     obtain ⟨r, hr, rfl⟩ := List.mem_map.1 hc
     exact getD_le (h.c9 r hr) k) (fun x hx => (w9 x hx).1) (by decide) (by omega)
    rw [hr]
    have hsum := weighF_some (by unfold colZ; rw [List.length_map]; exact wl') hr
    rw [wl', sumN_congr (g := fun j => ((w.getD j 0 : Int) : Rat) * (cz rows j k : Rat)) (fun j hj => by rw [colZ_get rows k hj])] at hsum
    have hz : sumN rows.length (fun j => ((w.getD j 0 : Int) : Rat) * (cz rows j k : Rat)) = 0 := wz k hk
    rw [hz] at hsum
    have : (r : Rat) = ((0 : Int) : Rat) := by rw [hsum]; show (0 : Rat) + 0 = 0; grind
    rw [Rat.intCast_inj.1 this]
   ·obtain ⟨r, hr⟩ := weighF_is (ws := w) (cs := kZ rows) (s := 0) (B := 0) (by unfold kZ; rw [List.length_map]; exact wl') (fun c hc => by
     unfold kZ at hc
     obtain ⟨r, hr, rfl⟩ := List.mem_map.1 hc
     exact h.k9 r hr) (fun x hx => (w9 x hx).1) (by decide) (by omega)
    rw [hr]
    have hsum := weighF_some (by unfold kZ; rw [List.length_map]; exact wl') hr
    rw [wl', sumN_congr (g := fun j => ((w.getD j 0 : Int) : Rat) * (kz rows j : Rat)) (fun j hj => by rw [kZ_get rows hj])] at hsum
    have hz : sumN rows.length (fun j => ((w.getD j 0 : Int) : Rat) * ((-(kz rows (vars + j - vars)) : Int) : Rat)) < 0 := wn
    rw [sumN_congr (g := fun j => (-1) * (((w.getD j 0 : Int) : Rat) * (kz rows j : Rat))) (fun j hj => by rw [show vars + j - vars = j by omega, Rat.intCast_neg]; grind), sumN_mul] at hz
    simp only [decide_eq_true_eq]
    have z : ((0 : Int) : Rat) = 0 := rfl
    apply Rat.intCast_lt_intCast.1
    rw [hsum, z]
    grind
  refine .inr ⟨w, ?_, hck, farkas_none h.len hck⟩
  show (if (2 : Int) = 1 ∧ checkPoint rows [] = false ∨ (2 : Int) = 2 ∧ checkFarkas rows w = false then ((0, [], []) : Int × List Rat × List Int) else (2, [], w)) = _
  rw [if_neg (by rw [hck]; simp)]
end Go.Proofs.Ytmcfcmijopbinaa.Lin
end

section
/- num's reckoning at rational numbers, as linear meets it; sign, right. -/
namespace Go.Proofs
theorem Z190 {p : Prop} (h : p := by first | exact Nat.le_refl _ | (simp; done) | (simp; omega) | omega) : p := h
end Go.Proofs
namespace Go.Proofs.Ytmcfcmijopbinaa.Ln
open Go.RowKit Go.Proofs.Ytmcfcmijopbinaa.Num Go.Proofs.Ytmcfcmijopbinaa.Given Go.Proofs.Ytmcfcmijopbinaa.Lin
set_option linter.unusedVariables false
set_option linter.unusedSimpArgs false
@[reducible, go_sem] def rv (x : Rat) : Value := .agg #[.int .i64 x.num, .int .i64 x.den]
theorem fit64 {x : Rat} (h : Fit x) : In64 x.num ∧ In64 (x.den : Int) := ⟨h.1, by have := h.2; unfold In64; omega⟩
theorem mkQ_ok {x : Rat} (h : Fit x) : mkQ x = (x.num, (x.den : Int), true) := if_pos h
theorem mkQ_no {x : Rat} (h : ¬ Fit x) : mkQ x = (0, 0, false) := if_neg h
theorem int_fit {n : Int} (h : In64 n) : Fit (n : Rat) := ⟨by rw [Rat.num_intCast]; exact h, by rw [Rat.den_intCast]; decide⟩
theorem rv_int (n : Int) : rv (n : Rat) = .agg #[.int .i64 n, .int .i64 1] := by unfold rv; rw [Rat.num_intCast, Rat.den_intCast]; rfl
theorem plus_ok {x y : Rat} (hx : Fit x) (hy : Fit y) (h : Fit (x + y)) (w : World) :
  Calls Try.prog 54 #[rv x, rv y] w fun e w' => e = .returned (.tuple #[rv (x + y), .bool true]) ∧ Below w.heap.size w w' :=
 num_Rat_Plus.calls _ _ _ _ _ _ _ w (by unfold num_Rat_Plus.f; rw [if_pos ⟨(fit64 hx).1, (fit64 hx).2, (fit64 hy).1, (fit64 hy).2⟩, plus_q, mkQ_ok h])
theorem plus_no {x y : Rat} (hx : Fit x) (hy : Fit y) (h : ¬ Fit (x + y)) (w : World) :
  Calls Try.prog 54 #[rv x, rv y] w fun e w' => e = .returned (.tuple #[.agg #[.int .i64 0, .int .i64 0], .bool false]) ∧ Below w.heap.size w w' :=
 num_Rat_Plus.calls _ _ _ _ _ _ _ w (by unfold num_Rat_Plus.f; rw [if_pos ⟨(fit64 hx).1, (fit64 hx).2, (fit64 hy).1, (fit64 hy).2⟩, plus_q, mkQ_no h])
theorem minus_ok {x y : Rat} (hx : Fit x) (hy : Fit y) (h : Fit (x - y)) (w : World) :
  Calls Try.prog 50 #[rv x, rv y] w fun e w' => e = .returned (.tuple #[rv (x - y), .bool true]) ∧ Below w.heap.size w w' :=
 num_Rat_Minus.calls _ _ _ _ _ _ _ w (by unfold num_Rat_Minus.f; rw [if_pos ⟨(fit64 hx).1, (fit64 hx).2, (fit64 hy).1, (fit64 hy).2⟩, minus_q, mkQ_ok h])
theorem minus_no {x y : Rat} (hx : Fit x) (hy : Fit y) (h : ¬ Fit (x - y)) (w : World) :
  Calls Try.prog 50 #[rv x, rv y] w fun e w' => e = .returned (.tuple #[.agg #[.int .i64 0, .int .i64 0], .bool false]) ∧ Below w.heap.size w w' :=
 num_Rat_Minus.calls _ _ _ _ _ _ _ w (by unfold num_Rat_Minus.f; rw [if_pos ⟨(fit64 hx).1, (fit64 hx).2, (fit64 hy).1, (fit64 hy).2⟩, minus_q, mkQ_no h])
theorem times_ok {x y : Rat} (hx : Fit x) (hy : Fit y) (h : Fit (x * y)) (w : World) :
  Calls Try.prog 55 #[rv x, rv y] w fun e w' => e = .returned (.tuple #[rv (x * y), .bool true]) ∧ Below w.heap.size w w' :=
 num_Rat_Times.calls _ _ _ _ _ _ _ w (by unfold num_Rat_Times.f; rw [if_pos ⟨(fit64 hx).1, (fit64 hx).2, (fit64 hy).1, (fit64 hy).2⟩, times_q, mkQ_ok h])
theorem times_no {x y : Rat} (hx : Fit x) (hy : Fit y) (h : ¬ Fit (x * y)) (w : World) :
  Calls Try.prog 55 #[rv x, rv y] w fun e w' => e = .returned (.tuple #[.agg #[.int .i64 0, .int .i64 0], .bool false]) ∧ Below w.heap.size w w' :=
 num_Rat_Times.calls _ _ _ _ _ _ _ w (by unfold num_Rat_Times.f; rw [if_pos ⟨(fit64 hx).1, (fit64 hx).2, (fit64 hy).1, (fit64 hy).2⟩, times_q, mkQ_no h])
theorem over_ok {x y : Rat} (hx : Fit x) (hy : Fit y) (h0 : y ≠ 0) (h : Fit (x / y)) (w : World) :
  Calls Try.prog 53 #[rv x, rv y] w fun e w' => e = .returned (.tuple #[rv (x / y), .bool true]) ∧ Below w.heap.size w w' :=
 num_Rat_Over.calls _ _ _ _ _ _ _ w (by unfold num_Rat_Over.f; rw [if_pos ⟨(fit64 hx).1, (fit64 hx).2, (fit64 hy).1, (fit64 hy).2⟩, over_q _ _ h0, mkQ_ok h])
theorem over_no {x y : Rat} (hx : Fit x) (hy : Fit y) (h0 : y ≠ 0) (h : ¬ Fit (x / y)) (w : World) :
  Calls Try.prog 53 #[rv x, rv y] w fun e w' => e = .returned (.tuple #[.agg #[.int .i64 0, .int .i64 0], .bool false]) ∧ Below w.heap.size w w' :=
 num_Rat_Over.calls _ _ _ _ _ _ _ w (by unfold num_Rat_Over.f; rw [if_pos ⟨(fit64 hx).1, (fit64 hx).2, (fit64 hy).1, (fit64 hy).2⟩, over_q _ _ h0, mkQ_no h])
def cmpQ (x y : Rat) : Int := if x < y then -1 else if x = y then 0 else 1
theorem cmp_is {x y : Rat} (hx : Fit x) (hy : Fit y) (w : World) :
  Calls Try.prog 47 #[rv x, rv y] w fun e w' => e = .returned (.int .i64 (cmpQ x y)) ∧ Below w.heap.size w w' :=
 num_Rat_Cmp.calls _ _ _ _ _ w (by unfold num_Rat_Cmp.f; rw [if_pos ⟨(fit64 hx).1, (fit64 hx).2, (fit64 hy).1, (fit64 hy).2⟩, cmp_q]; rfl)
def sg0 (a : Int) : Int := if a < 0 then -1 else if 0 < a then 1 else 0
theorem isNaN_any (a : Int) (w : World) : Calls Try.prog 92 #[.int .i64 a] w fun e w' => e = .returned (.bool false) ∧ w' = w := by
 go_enter Try.func92, Try.ntmps92
 go_wp2
 go_ret
 simp [go_sem]
theorem compare_any (a : Int) (w : World) : Calls Try.prog 74 #[.int .i64 a, .int .i64 0] w fun e w' => e = .returned (.int .i64 (sg0 a)) ∧ w' = w := by
 have hn := isNaN_any
 have HN := Lib.hid hn
 clear hn
 unfold sg0
 by_cases h1 : a < 0
 ·have e1 : decide (a < 0) = true := decide_eq_true h1
  rw [if_pos h1]
  clear h1
  go_enter Try.func74, Try.ntmps74
  go_wp2_with fail
  refine (HN.out _ _).mono ?_
  rintro e w1 ⟨rfl, rfl⟩
  go_wp2_with fail
  refine (HN.out _ _).mono ?_
  rintro e w1 ⟨rfl, rfl⟩
  go_wp2
  go_ret
  exact ⟨rfl, rfl⟩
 ·have e1 : decide (a < 0) = false := decide_eq_false h1
  rw [if_neg h1]
  clear h1
  by_cases h2 : 0 < a
  ·have e2 : decide (0 < a) = true := decide_eq_true h2
   rw [if_pos h2]
   clear h2
   go_enter Try.func74, Try.ntmps74
   go_wp2_with fail
   refine (HN.out _ _).mono ?_
   rintro e w1 ⟨rfl, rfl⟩
   go_wp2_with fail
   refine (HN.out _ _).mono ?_
   rintro e w1 ⟨rfl, rfl⟩
   go_wp2
   go_ret
   exact ⟨rfl, rfl⟩
  ·have e2 : decide (0 < a) = false := decide_eq_false h2
   rw [if_neg h2]
   clear h2
   go_enter Try.func74, Try.ntmps74
   go_wp2_with fail
   refine (HN.out _ _).mono ?_
   rintro e w1 ⟨rfl, rfl⟩
   go_wp2_with fail
   refine (HN.out _ _).mono ?_
   rintro e w1 ⟨rfl, rfl⟩
   go_wp2
   go_ret
   exact ⟨rfl, rfl⟩
theorem sign_any (p q : Int) (w : World) : Calls Try.prog 48 #[.agg #[.int .i64 p, .int .i64 q]] w fun e w' => e = .returned (.int .i64 (sg0 p)) ∧ Below w.heap.size w w' := by
 have HN := Lib.hid compare_any
 go_enter Try.func48, Try.ntmps48
 go_wp2_with fail
 refine (HN.out _ _).mono ?_
 rintro e w1 ⟨rfl, rfl⟩
 go_wp2
 go_ret
 exact ⟨rfl, (by repeat (first | exact Below.refl _ _ | with_reducible assumption | refine Below.alloc ?_ Z190 _ | refine Below.setCell ?_ Z190 _ | refine Below.drew ?_ | refine bdrewN ?_ _))⟩
def rightPQ (p q : Int) : Bool := (mk p q).2.2 && (p == (mk p q).1 && q == (mk p q).2.1)
theorem right_any (p q : Int) (w : World) (hp : In64 p) (hq : In64 q) : Calls Try.prog 58 #[.agg #[.int .i64 p, .int .i64 q]] w fun e w' => e = .returned (.bool (rightPQ p q)) ∧ Below w.heap.size w w' := by
 have HM := Lib.hid (fun W => Make_any p q W hp hq)
 clear hp hq
 unfold rightPQ
 obtain ⟨⟨x, y, b⟩, hm⟩ : ∃ r, mk p q = r := ⟨_, rfl⟩
 rw [hm] at HM ⊢
 clear hm
 cases b with
 | true =>
  go_enter Try.func58, Try.ntmps58
  go_wp2_with fail
  refine (HM.out _).mono ?_
  rintro e w1 ⟨rfl, hb1⟩
  obtain ⟨hc, hf⟩ := bcell hb1
  have hz := hb1.size
  have c1 : w1.cell? ⟨w.heap.size, 0, none⟩ = some (.int .i64 p) := by rw [hc _ _ Z190]; simp [go_sem]
  have c2 : w1.cell? ⟨w.heap.size, 1, none⟩ = some (.int .i64 q) := by rw [hc _ _ Z190]; simp [go_sem]
  have f1 : w1.frozen? ⟨w.heap.size, 0, none⟩ = false := by rw [hf _ _ Z190]; simp [go_sem]
  have f2 : w1.frozen? ⟨w.heap.size, 1, none⟩ = false := by rw [hf _ _ Z190]; simp [go_sem]
  have hb2 : Below w.heap.size w w1 := ((Below.refl _ _).alloc (Nat.le_refl _) _).trans (hb1.mono (by simp))
  simp at hz
  have hlt : w.heap.size < w1.heap.size := by omega
  have hne : w.heap.size ≠ w1.heap.size := by omega
  have hb3 := Lib.hid hb2
  clear hc hf hb1 hb2
  go_wp2
  all_goals (go_ret; exact ⟨by simp [*], hb3.out.alloc (by omega) _⟩)
 | false =>
  go_enter Try.func58, Try.ntmps58
  go_wp2_with fail
  refine (HM.out _).mono ?_
  rintro e w1 ⟨rfl, hb1⟩
  have hz := hb1.size
  have hb2 : Below w.heap.size w w1 := ((Below.refl _ _).alloc (Nat.le_refl _) _).trans (hb1.mono (by simp))
  simp at hz
  have hb3 := Lib.hid hb2
  clear hb1 hb2
  go_wp2
  go_ret
  exact ⟨by simp, hb3.out.alloc (by omega) _⟩
end Go.Proofs.Ytmcfcmijopbinaa.Ln
end
