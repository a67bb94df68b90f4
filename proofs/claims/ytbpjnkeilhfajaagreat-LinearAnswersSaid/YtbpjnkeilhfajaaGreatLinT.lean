import Derived.Test.YtbpjnkeilhfajaaGreatLinQ
import Derived.Test.YtbpjnkeilhfajaaGreatRfA
import Derived.Test.YtbpjnkeilhfajaaGreatNumV
import Derived.Test.YtbpjnkeilhfajaaGreatRefA
import Derived.Test.YtbpjnkeilhfajaaGreatWWords
import Derived.Laws.StructEq
import Derived.Test.YtbpjnkeilhfajaaGreatProg
import Derived.Below
import Derived.Deep.Draws
import Derived.Deep.AppendLies
import Derived.Maps.AppendAt
import Derived.OwnWalk
import Derived.Laws.BytesArg
import Derived.Laws.MakeOwn
import Derived.Laws.OwnMore
import Derived.Deep.OwnRows
import Derived.Tactics
import Derived.Lib.ConvBytes
import Derived.Laws.Slices
import Derived.WalkKit
import Derived.KernelRfl
import Derived.RowKit3
import Derived.Deep.LoopGhost
import Derived.Deep.QuietTactic
import Derived.BigQuiet
import Derived.WideLaws
import Derived.Deep.DeepCutAuto
import Derived.Deep.CutBlock
import Derived.Deep.RegionHeld3
import Derived.Laws.Rows
import Derived.Lib.AppendStr
import Derived.ArgAppend
import Derived.Laws.IdiomCopy
import Derived.OrdersHeld
import Derived.Laws.BitsLemmas
import Derived.RowKit
import Derived.Test.YtbpjnkeilhfajaaGreatWMore
section
/- Plain: linear.Solve, and what it answers of small rows. -/
namespace Go.Proofs.YtbpjnkeilhfajaaGreat.Lin
open Go.RowKit Go.Proofs.YtbpjnkeilhfajaaGreat.Given Go.Proofs.YtbpjnkeilhfajaaGreat.Num Go.Proofs.YtbpjnkeilhfajaaGreat.Sim
set_option linter.unusedVariables false
set_option linter.unusedSimpArgs false
def limF : List RowZ → Option (List Rat)
 | [] => some []
 | r :: l => (okI (-r.2)).bind fun x => (limF l).bind fun t => some ((x : Rat) :: t)
def made (rows : List RowZ) (vars : Nat) : Option Tab :=
 (limF rows).bind fun lim => some ⟨(List.range rows.length).map (vars + ·), rows.map (fun r => r.1.map (fun c : Int => (c : Rat)) ++ List.replicate (vars + rows.length - r.1.length) 0), List.replicate (vars + rows.length) 0, lim⟩
def mayQ (rows : List RowZ) (vars : Int) : Bool := decide (0 ≤ vars) && decide (vars ≤ 64) && decide (rows.length ≤ 256) && rows.all (fun r => decide ((r.1.length : Int) = vars))
def solve (rows : List RowZ) (vars fuel : Int) : Int × List Rat × List Int :=
 if mayQ rows vars = true then
  match (made rows vars.toNat).bind (loop vars.toNat fuel.toNat) with
  | none => (0, [], [])
  | some (a, p, w) => if a = 1 ∧ checkPoint rows p = false ∨ a = 2 ∧ checkFarkas rows w = false then (0, [], []) else (a, p, w)
 else (0, [], [])
structure SmallZ (rows : List RowZ) (vars : Nat) : Prop where
 three : vars ≤ 3
 len : ∀ r, r ∈ rows → r.1.length = vars
 few : rows.length ≤ 64
 c9 : ∀ r, r ∈ rows → ∀ c, c ∈ r.1 → c.natAbs ≤ 9
 k9 : ∀ r, r ∈ rows → r.2.natAbs ≤ 9
def quZ (rows : List RowZ) (vars : Nat) : Qu := ⟨vars, rows.length, fun j k => (cz rows j k : Rat), fun v => ((-(kz rows (v - vars)) : Int) : Rat)⟩
theorem row_get {rows : List RowZ} {j : Nat} (h : j < rows.length) : rows.getD j ([], 0) = rows[j] := by simp [List.getElem?_eq_getElem h]
theorem row_beyond {rows : List RowZ} {j : Nat} (h : ¬ j < rows.length) : rows.getD j ([], 0) = ([], 0) := by simp [List.getElem?_eq_none (show rows.length ≤ j by omega)]
theorem getD_le {l : List Int} {B : Nat} (h : ∀ c, c ∈ l → c.natAbs ≤ B) (k : Nat) : (l.getD k 0).natAbs ≤ B := by
 by_cases hk : k < l.length
 ·have := h l[k] (List.getElem_mem hk); simpa [List.getElem?_eq_getElem hk] using this
 ·simp [List.getElem?_eq_none (show l.length ≤ k by omega)]
theorem cz_le {rows : List RowZ} {vars : Nat} (h : SmallZ rows vars) (j k : Nat) : (cz rows j k).natAbs ≤ 9 := by
 unfold cz
 by_cases hj : j < rows.length
 ·rw [row_get hj]; exact getD_le (h.c9 _ (List.getElem_mem hj)) k
 ·rw [row_beyond hj]; exact getD_le (fun c hc => by cases hc) k
theorem kz_le {rows : List RowZ} {vars : Nat} (h : SmallZ rows vars) (j : Nat) : (kz rows j).natAbs ≤ 9 := by
 unfold kz
 by_cases hj : j < rows.length
 ·rw [row_get hj]; exact h.k9 _ (List.getElem_mem hj)
 ·rw [row_beyond hj]; decide
theorem limF_is : ∀ {rows : List RowZ}, (∀ r, r ∈ rows → r.2.natAbs ≤ 9) → limF rows = some (rows.map fun r => ((-r.2 : Int) : Rat))
 | [], _ => rfl
 | r :: l, h => by
  have := h r (by simp)
  rw [limF, okI_in (by omega), Option.bind_some, limF_is (fun x hx => h x (by simp [hx]))]; rfl
theorem made_is {rows : List RowZ} {vars : Nat} (h : SmallZ rows vars) : ∃ t, made rows vars = some t ∧ Rep (quZ rows vars) t (Sim.start (quZ rows vars)) := by
 refine ⟨_, by unfold made; rw [limF_is h.k9]; rfl, ?_, ?_, fun i hi => ?_, ?_, ?_, fun i hi => ?_, fun i k hi hk => ?_, fun k hk => ?_, fun j hj => ?_⟩
 ·simp [quZ]
 ·simp [quZ]
 ·have hi' : i < rows.length := hi
  have := h.len _ (List.getElem_mem hi')
  simp [rdR, List.getElem?_eq_getElem hi', quZ, Qu.N, this]
 ·simp [quZ, Qu.N]
 ·simp [quZ]
 ·have hi' : i < rows.length := hi
  simp [rdN, Sim.start, quZ, List.getElem?_range hi']
 ·have hi' : i < rows.length := hi
  have hl := h.len _ (List.getElem_mem hi')
  have e0 : (Sim.start (quZ rows vars)).row i k = if k < vars then ((cz rows i k : Int) : Rat) else 0 := rfl
  rw [e0]
  unfold rdR
  rw [List.getD_eq_getElem?_getD, List.getElem?_map, List.getElem?_eq_getElem hi', Option.map_some, Option.getD_some]
  unfold rdQ
  rw [List.getD_eq_getElem?_getD, List.getElem?_append, List.length_map, hl]
  by_cases hkv : k < vars
  ·rw [if_pos hkv, if_pos hkv, List.getElem?_map, List.getElem?_eq_getElem (by omega)]
   simp only [Option.map_some, Option.getD_some]
   unfold cz
   rw [row_get hi', List.getD_eq_getElem?_getD, List.getElem?_eq_getElem (by omega), Option.getD_some]
  ·rw [if_neg hkv, if_neg hkv, List.getElem?_replicate]
   split <;> rfl
 ·unfold rdQ
  rw [List.getD_eq_getElem?_getD, List.getElem?_replicate]
  simp only [Sim.start]
  split <;> rfl
 ·have hj' : j < rows.length := hj
  unfold rdQ
  rw [List.getD_eq_getElem?_getD, List.getElem?_map, List.getElem?_eq_getElem hj', Option.map_some, Option.getD_some]
  show _ = ((-(kz rows (vars + j - vars)) : Int) : Rat)
  rw [show vars + j - vars = j by omega]
  unfold kz
  rw [row_get hj']
def Pt (rows : List RowZ) (vars : Nat) (x : Nat → Rat) : Prop := ∀ j, j < rows.length → sumN vars (fun k => (cz rows j k : Rat) * x k) + (kz rows j : Rat) ≤ 0
theorem farkas_none {rows : List RowZ} {vars : Nat} (h : ∀ r, r ∈ rows → r.1.length = vars) {w : List Int} (hw : checkFarkas rows w = true) (x : Nat → Rat) : ¬ Pt rows vars x := by
 obtain ⟨h0, h1, h2, h3, h4⟩ := farkas_true hw
 have hn : 0 < rows.length := List.length_pos_iff.2 h0
 have hl := h _ (List.getElem_mem hn)
 have h5 := (h2 0 hn).2
 rw [row_get hn, hl] at h5
 intro hp
 refine not_both (n := vars) (m := rows.length) (C := fun j k => (cz rows j k : Rat)) (K := fun j => (kz rows j : Rat)) (y := fun j => ((w.getD j 0 : Int) : Rat)) (x := x) hp (fun j hj => ?_) (fun k hk => h3 k (by omega)) h4
 have := Rat.intCast_le_intCast.2 (h2 j hj).1; exact this
theorem solve_small {rows : List RowZ} {vars : Nat} (h : SmallZ rows vars) {fuel : Nat} (hf : cnt (vars + rows.length) vars ≤ fuel + 1) :
  (∃ p, solve rows vars fuel = (1, p, []) ∧ p.length = vars ∧ checkPoint rows p = true ∧ Pt rows vars (rdQ p)) ∨ (∃ w, solve rows vars fuel = (2, [], w) ∧ checkFarkas rows w = true ∧ ∀ x, ¬ Pt rows vars x) := by
 have hs : Small (quZ rows vars) (cz rows) := ⟨h.three, fun _ _ => rfl, cz_le h⟩
 have hl : Lim (quZ rows vars) (fun v => -(kz rows (v - vars))) := ⟨fun _ => rfl, fun v => by have := kz_le h (v - vars); omega⟩
 obtain ⟨t, t1, t2⟩ := made_is h
 have he := loop_ends hs hl fuel (Run.zero _) t2 (by show cnt (vars + rows.length) vars ≤ _; omega)
 have hmay : mayQ rows vars = true := by
  unfold mayQ
  simp only [Bool.and_eq_true, decide_eq_true_eq, List.all_eq_true]
  have := h.three; have := h.few
  exact ⟨⟨⟨by omega, by omega⟩, by omega⟩, fun r hr => by rw [h.len r hr]⟩
 unfold solve
 rw [if_pos hmay, Int.toNat_natCast, Int.toNat_natCast, t1, Option.bind_some]
 change Ends (quZ rows vars) (loop vars fuel t) at he
 rcases he with ⟨p, e, pl, ⟨D, hD, hDl, hfr⟩, hp⟩ | ⟨w, e, wl, w0, wz, wn⟩
 ·rw [e]
  have pl' : p.length = vars := pl
  have hpt : Pt rows vars (rdQ p) := fun j hj => by
   have := hp j hj
   change sumN vars (fun k => (cz rows j k : Rat) * rdQ p k) ≤ ((-(kz rows (vars + j - vars)) : Int) : Rat) at this
   rw [show vars + j - vars = j by omega, Rat.intCast_neg] at this
   grind
  have hck : checkPoint rows p = true := by
   unfold checkPoint
   refine List.all_eq_true.2 fun r hr => ?_
   obtain ⟨j, hj, rfl⟩ := List.getElem_of_mem hr
   unfold checkRow
   have hlen := h.len _ hr
   rw [Bool.and_eq_true, decide_eq_true_eq]
   refine ⟨by omega, ?_⟩
   have fk : Frac D (9 * 4374) (rows[j].2 : Rat) := Frac.int D hDl (h.k9 _ hr)
   have h3 := h.three
   obtain ⟨s, hh⟩ := holdF_is hD hDl (cs := rows[j].1) (xs := p) (by omega) (h.c9 _ hr) (fun x hx => by
    obtain ⟨k, hk, rfl⟩ := rdQ_mem hx
    exact hfr k (by show k < vars; omega)) fk (by omega)
   rw [hh]
   have hsum := holdF_some (by omega) hh
   have h4 := hpt j hj
   unfold cz kz at h4
   rw [row_get hj] at h4
   rw [hlen] at hsum
   simp only [decide_eq_true_eq]
   rw [hsum]; grind
  refine .inl ⟨p, ?_, pl', hck, hpt⟩
  show (if (1 : Int) = 1 ∧ checkPoint rows p = false ∨ (1 : Int) = 2 ∧ checkFarkas rows [] = false then ((0, [], []) : Int × List Rat × List Int) else (1, p, [])) = _
  rw [if_neg (by rw [hck]; simp)]
 ·rw [e]
  have wl' : w.length = rows.length := wl
  have hne : rows ≠ [] := by
   intro e0
   have h0 : rows.length = 0 := by rw [e0]; rfl
   have : sumN rows.length (fun j => ((w.getD j 0 : Int) : Rat) * (quZ rows vars).lim (vars + j)) < 0 := wn
   rw [h0, sumN] at this
   grind
  have hw1 : widthZ rows = vars := by
   cases hr : rows with
   | nil => exact absurd hr hne
   | cons r l => exact h.len r (by rw [hr]; simp)
  have w9 : ∀ x, x ∈ w → x.natAbs ≤ 19131876 ∧ 0 ≤ x := fun x hx => by
   obtain ⟨j, hj, rfl⟩ := List.getElem_of_mem hx
   have := w0 j (by show j < rows.length; omega)
   rw [List.getD_eq_getElem?_getD, List.getElem?_eq_getElem hj, Option.getD_some] at this
   exact ⟨this.2, this.1⟩
  have hfew := h.few
  have hck : checkFarkas rows w = true := by
   unfold checkFarkas
   rw [hw1]
   simp only [Bool.and_eq_true, decide_eq_true_eq, List.all_eq_true, List.mem_range, beq_iff_eq]
   refine ⟨⟨⟨⟨⟨wl'.symm, fun x hx => (w9 x hx).2⟩, hne⟩, fun r hr => h.len r hr⟩, fun k hk => ?_⟩, ?_⟩
   ·obtain ⟨r, hr⟩ := weighF_is (ws := w) (cs := colZ rows k) (s := 0) (B := 0) (by unfold colZ; rw [List.length_map]; exact wl') (fun c hc => by
     unfold colZ at hc
     obtain ⟨r, hr, rfl⟩ := List.mem_map.1 hc
     exact getD_le (h.c9 r hr) k) (fun x hx => (w9 x hx).1) (by decide) (by omega)
    rw [hr]
    have hsum := weighF_some (by unfold colZ; rw [List.length_map]; exact wl') hr
    rw [wl', sumN_congr (g := fun j => ((w.getD j 0 : Int) : Rat) * (cz rows j k : Rat)) (fun j hj => by rw [colZ_get rows k hj])] at hsum
    have hz : sumN rows.length (fun j => ((w.getD j 0 : Int) : Rat) * (cz rows j k : Rat)) = 0 := wz k hk
    rw [hz] at hsum
    have : (r : Rat) = ((0 : Int) : Rat) := by rw [hsum]; show (0 : Rat) + 0 = 0; grind
    rw [Rat.intCast_inj.1 this]
   ·obtain ⟨r, hr⟩ := weighF_is (ws := w) (cs := kZ rows) (s := 0) (B := 0) (by unfold kZ; rw [List.length_map]; exact wl') (fun c hc => by
     unfold kZ at hc
     obtain ⟨r, hr, rfl⟩ := List.mem_map.1 hc
     exact h.k9 r hr) (fun x hx => (w9 x hx).1) (by decide) (by omega)
    rw [hr]
    have hsum := weighF_some (by unfold kZ; rw [List.length_map]; exact wl') hr
    rw [wl', sumN_congr (g := fun j => ((w.getD j 0 : Int) : Rat) * (kz rows j : Rat)) (fun j hj => by rw [kZ_get rows hj])] at hsum
    have hz : sumN rows.length (fun j => ((w.getD j 0 : Int) : Rat) * ((-(kz rows (vars + j - vars)) : Int) : Rat)) < 0 := wn
    rw [sumN_congr (g := fun j => (-1) * (((w.getD j 0 : Int) : Rat) * (kz rows j : Rat))) (fun j hj => by rw [show vars + j - vars = j by omega, Rat.intCast_neg]; grind), sumN_mul] at hz
    simp only [decide_eq_true_eq]
    have z : ((0 : Int) : Rat) = 0 := rfl
    apply Rat.intCast_lt_intCast.1
    rw [hsum, z]
    grind
  refine .inr ⟨w, ?_, hck, farkas_none h.len hck⟩
  show (if (2 : Int) = 1 ∧ checkPoint rows [] = false ∨ (2 : Int) = 2 ∧ checkFarkas rows w = false then ((0, [], []) : Int × List Rat × List Int) else (2, [], w)) = _
  rw [if_neg (by rw [hck]; simp)]
end Go.Proofs.YtbpjnkeilhfajaaGreat.Lin
end

section
/- num's reckoning at rational numbers, as linear meets it; sign, right. -/
namespace Go.Proofs
theorem Z1d0 {p : Prop} (h : p := by first | exact Nat.le_refl _ | (simp; done) | (simp; omega) | omega) : p := h
end Go.Proofs
namespace Go.Proofs.YtbpjnkeilhfajaaGreat.Ln
open Go.RowKit Go.Proofs.YtbpjnkeilhfajaaGreat.Num Go.Proofs.YtbpjnkeilhfajaaGreat.Given Go.Proofs.YtbpjnkeilhfajaaGreat.Lin
set_option linter.unusedVariables false
set_option linter.unusedSimpArgs false
@[reducible, go_sem] def rv (x : Rat) : Value := .agg #[.int .i64 x.num, .int .i64 x.den]
theorem fit64 {x : Rat} (h : Fit x) : In64 x.num ∧ In64 (x.den : Int) := ⟨h.1, by have := h.2; unfold In64; omega⟩
theorem mkQ_ok {x : Rat} (h : Fit x) : mkQ x = (x.num, (x.den : Int), true) := if_pos h
theorem mkQ_no {x : Rat} (h : ¬ Fit x) : mkQ x = (0, 0, false) := if_neg h
theorem int_fit {n : Int} (h : In64 n) : Fit (n : Rat) := ⟨by rw [Rat.num_intCast]; exact h, by rw [Rat.den_intCast]; decide⟩
theorem rv_int (n : Int) : rv (n : Rat) = .agg #[.int .i64 n, .int .i64 1] := by unfold rv; rw [Rat.num_intCast, Rat.den_intCast]; rfl
theorem plus_ok {x y : Rat} (hx : Fit x) (hy : Fit y) (h : Fit (x + y)) (w : World) :
  Calls Tryz.prog 86 #[rv x, rv y] w fun e w' => e = .returned (.tuple #[rv (x + y), .bool true]) ∧ Below w.heap.size w w' :=
 num_Rat_Plus.calls _ _ _ _ _ _ _ w (by unfold num_Rat_Plus.f; rw [if_pos ⟨(fit64 hx).1, (fit64 hx).2, (fit64 hy).1, (fit64 hy).2⟩, plus_q, mkQ_ok h])
theorem plus_no {x y : Rat} (hx : Fit x) (hy : Fit y) (h : ¬ Fit (x + y)) (w : World) :
  Calls Tryz.prog 86 #[rv x, rv y] w fun e w' => e = .returned (.tuple #[.agg #[.int .i64 0, .int .i64 0], .bool false]) ∧ Below w.heap.size w w' :=
 num_Rat_Plus.calls _ _ _ _ _ _ _ w (by unfold num_Rat_Plus.f; rw [if_pos ⟨(fit64 hx).1, (fit64 hx).2, (fit64 hy).1, (fit64 hy).2⟩, plus_q, mkQ_no h])
theorem minus_ok {x y : Rat} (hx : Fit x) (hy : Fit y) (h : Fit (x - y)) (w : World) :
  Calls Tryz.prog 98 #[rv x, rv y] w fun e w' => e = .returned (.tuple #[rv (x - y), .bool true]) ∧ Below w.heap.size w w' :=
 num_Rat_Minus.calls _ _ _ _ _ _ _ w (by unfold num_Rat_Minus.f; rw [if_pos ⟨(fit64 hx).1, (fit64 hx).2, (fit64 hy).1, (fit64 hy).2⟩, minus_q, mkQ_ok h])
theorem minus_no {x y : Rat} (hx : Fit x) (hy : Fit y) (h : ¬ Fit (x - y)) (w : World) :
  Calls Tryz.prog 98 #[rv x, rv y] w fun e w' => e = .returned (.tuple #[.agg #[.int .i64 0, .int .i64 0], .bool false]) ∧ Below w.heap.size w w' :=
 num_Rat_Minus.calls _ _ _ _ _ _ _ w (by unfold num_Rat_Minus.f; rw [if_pos ⟨(fit64 hx).1, (fit64 hx).2, (fit64 hy).1, (fit64 hy).2⟩, minus_q, mkQ_no h])
theorem times_ok {x y : Rat} (hx : Fit x) (hy : Fit y) (h : Fit (x * y)) (w : World) :
  Calls Tryz.prog 87 #[rv x, rv y] w fun e w' => e = .returned (.tuple #[rv (x * y), .bool true]) ∧ Below w.heap.size w w' :=
 num_Rat_Times.calls _ _ _ _ _ _ _ w (by unfold num_Rat_Times.f; rw [if_pos ⟨(fit64 hx).1, (fit64 hx).2, (fit64 hy).1, (fit64 hy).2⟩, times_q, mkQ_ok h])
theorem times_no {x y : Rat} (hx : Fit x) (hy : Fit y) (h : ¬ Fit (x * y)) (w : World) :
  Calls Tryz.prog 87 #[rv x, rv y] w fun e w' => e = .returned (.tuple #[.agg #[.int .i64 0, .int .i64 0], .bool false]) ∧ Below w.heap.size w w' :=
 num_Rat_Times.calls _ _ _ _ _ _ _ w (by unfold num_Rat_Times.f; rw [if_pos ⟨(fit64 hx).1, (fit64 hx).2, (fit64 hy).1, (fit64 hy).2⟩, times_q, mkQ_no h])
theorem over_ok {x y : Rat} (hx : Fit x) (hy : Fit y) (h0 : y ≠ 0) (h : Fit (x / y)) (w : World) :
  Calls Tryz.prog 101 #[rv x, rv y] w fun e w' => e = .returned (.tuple #[rv (x / y), .bool true]) ∧ Below w.heap.size w w' :=
 num_Rat_Over.calls _ _ _ _ _ _ _ w (by unfold num_Rat_Over.f; rw [if_pos ⟨(fit64 hx).1, (fit64 hx).2, (fit64 hy).1, (fit64 hy).2⟩, over_q _ _ h0, mkQ_ok h])
theorem over_no {x y : Rat} (hx : Fit x) (hy : Fit y) (h0 : y ≠ 0) (h : ¬ Fit (x / y)) (w : World) :
  Calls Tryz.prog 101 #[rv x, rv y] w fun e w' => e = .returned (.tuple #[.agg #[.int .i64 0, .int .i64 0], .bool false]) ∧ Below w.heap.size w w' :=
 num_Rat_Over.calls _ _ _ _ _ _ _ w (by unfold num_Rat_Over.f; rw [if_pos ⟨(fit64 hx).1, (fit64 hx).2, (fit64 hy).1, (fit64 hy).2⟩, over_q _ _ h0, mkQ_no h])
def cmpQ (x y : Rat) : Int := if x < y then -1 else if x = y then 0 else 1
theorem cmp_is {x y : Rat} (hx : Fit x) (hy : Fit y) (w : World) :
  Calls Tryz.prog 25 #[rv x, rv y] w fun e w' => e = .returned (.int .i64 (cmpQ x y)) ∧ Below w.heap.size w w' :=
 num_Rat_Cmp.calls _ _ _ _ _ w (by unfold num_Rat_Cmp.f; rw [if_pos ⟨(fit64 hx).1, (fit64 hx).2, (fit64 hy).1, (fit64 hy).2⟩, cmp_q]; rfl)
def sg0 (a : Int) : Int := if a < 0 then -1 else if 0 < a then 1 else 0
theorem isNaN_any (a : Int) (w : World) : Calls Tryz.prog 130 #[.int .i64 a] w fun e w' => e = .returned (.bool false) ∧ w' = w := by
 go_enter Tryz.func130, Tryz.ntmps130
 go_wp2
 go_ret
 simp [go_sem]
theorem compare_any (a : Int) (w : World) : Calls Tryz.prog 119 #[.int .i64 a, .int .i64 0] w fun e w' => e = .returned (.int .i64 (sg0 a)) ∧ w' = w := by
 have hn := isNaN_any
 have HN := Lib.hid hn
 clear hn
 unfold sg0
 by_cases h1 : a < 0
 ·have e1 : decide (a < 0) = true := decide_eq_true h1
  rw [if_pos h1]
  clear h1
  go_enter Tryz.func119, Tryz.ntmps119
  go_wp2_with fail
  refine (HN.out _ _).mono ?_
  rintro e w1 ⟨rfl, rfl⟩
  go_wp2_with fail
  refine (HN.out _ _).mono ?_
  rintro e w1 ⟨rfl, rfl⟩
  go_wp2
  go_ret
  exact ⟨rfl, rfl⟩
 ·have e1 : decide (a < 0) = false := decide_eq_false h1
  rw [if_neg h1]
  clear h1
  by_cases h2 : 0 < a
  ·have e2 : decide (0 < a) = true := decide_eq_true h2
   rw [if_pos h2]
   clear h2
   go_enter Tryz.func119, Tryz.ntmps119
   go_wp2_with fail
   refine (HN.out _ _).mono ?_
   rintro e w1 ⟨rfl, rfl⟩
   go_wp2_with fail
   refine (HN.out _ _).mono ?_
   rintro e w1 ⟨rfl, rfl⟩
   go_wp2
   go_ret
   exact ⟨rfl, rfl⟩
  ·have e2 : decide (0 < a) = false := decide_eq_false h2
   rw [if_neg h2]
   clear h2
   go_enter Tryz.func119, Tryz.ntmps119
   go_wp2_with fail
   refine (HN.out _ _).mono ?_
   rintro e w1 ⟨rfl, rfl⟩
   go_wp2_with fail
   refine (HN.out _ _).mono ?_
   rintro e w1 ⟨rfl, rfl⟩
   go_wp2
   go_ret
   exact ⟨rfl, rfl⟩
theorem sign_any (p q : Int) (w : World) : Calls Tryz.prog 88 #[.agg #[.int .i64 p, .int .i64 q]] w fun e w' => e = .returned (.int .i64 (sg0 p)) ∧ Below w.heap.size w w' := by
 have HN := Lib.hid compare_any
 go_enter Tryz.func88, Tryz.ntmps88
 go_wp2_with fail
 refine (HN.out _ _).mono ?_
 rintro e w1 ⟨rfl, rfl⟩
 go_wp2
 go_ret
 exact ⟨rfl, (by repeat (first | exact Below.refl _ _ | with_reducible assumption | refine Below.alloc ?_ Z1d0 _ | refine Below.setCell ?_ Z1d0 _ | refine Below.drew ?_ | refine bdrewN ?_ _))⟩
def rightPQ (p q : Int) : Bool := (mk p q).2.2 && (p == (mk p q).1 && q == (mk p q).2.1)
theorem right_any (p q : Int) (w : World) (hp : In64 p) (hq : In64 q) : Calls Tryz.prog 36 #[.agg #[.int .i64 p, .int .i64 q]] w fun e w' => e = .returned (.bool (rightPQ p q)) ∧ Below w.heap.size w w' := by
 have HM := Lib.hid (fun W => Make_any p q W hp hq)
 clear hp hq
 unfold rightPQ
 obtain ⟨⟨x, y, b⟩, hm⟩ : ∃ r, mk p q = r := ⟨_, rfl⟩
 rw [hm] at HM ⊢
 clear hm
 cases b with
 | true =>
  go_enter Tryz.func36, Tryz.ntmps36
  go_wp2_with fail
  refine (HM.out _).mono ?_
  rintro e w1 ⟨rfl, hb1⟩
  obtain ⟨hc, hf⟩ := bcell hb1
  have hz := hb1.size
  have c1 : w1.cell? ⟨w.heap.size, 0, none⟩ = some (.int .i64 p) := by rw [hc _ _ Z1d0]; simp [go_sem]
  have c2 : w1.cell? ⟨w.heap.size, 1, none⟩ = some (.int .i64 q) := by rw [hc _ _ Z1d0]; simp [go_sem]
  have f1 : w1.frozen? ⟨w.heap.size, 0, none⟩ = false := by rw [hf _ _ Z1d0]; simp [go_sem]
  have f2 : w1.frozen? ⟨w.heap.size, 1, none⟩ = false := by rw [hf _ _ Z1d0]; simp [go_sem]
  have hb2 : Below w.heap.size w w1 := ((Below.refl _ _).alloc (Nat.le_refl _) _).trans (hb1.mono (by simp))
  simp at hz
  have hlt : w.heap.size < w1.heap.size := by omega
  have hne : w.heap.size ≠ w1.heap.size := by omega
  have hb3 := Lib.hid hb2
  clear hc hf hb1 hb2
  go_wp2
  all_goals (go_ret; exact ⟨by simp [*], hb3.out.alloc (by omega) _⟩)
 | false =>
  go_enter Tryz.func36, Tryz.ntmps36
  go_wp2_with fail
  refine (HM.out _).mono ?_
  rintro e w1 ⟨rfl, hb1⟩
  have hz := hb1.size
  have hb2 : Below w.heap.size w w1 := ((Below.refl _ _).alloc (Nat.le_refl _) _).trans (hb1.mono (by simp))
  simp at hz
  have hb3 := Lib.hid hb2
  clear hb1 hb2
  go_wp2
  go_ret
  exact ⟨by simp, hb3.out.alloc (by omega) _⟩
end Go.Proofs.YtbpjnkeilhfajaaGreat.Ln
end

section
-- Out of what the kit's printer wrote for this seat: the words that this claim stands on.
/-! ### 52. A row that stays read whatever happens to a block (a set of blocks) doesn't lie there -/
namespace Go.Proofs.YtbpjnkeilhfajaaGreatW.PrintWords
open Go.RowKit
namespace Kd
section
variable {α : Type} {d : Kd α} {W : World} {g n : Nat} {S ok : Nat → Prop} {A : Option Addr} {ad : Addr} {xs : List α}
end
end Kd
end Go.Proofs.YtbpjnkeilhfajaaGreatW.PrintWords
end

section
-- Out of what the kit's printer wrote for this seat: the words that this claim stands on.
/-! ### 54. Behind orders that were drawn quietly: the same facts at the world's new name; a flat row's foot -/
namespace Go.Proofs.YtbpjnkeilhfajaaGreatW.PrintWords
open Go.RowKit
section
variable {w w' u : World} {m B g : Nat} {o : Obj} {row : Option Nat} {S : Nat → Prop} {a : Addr} {v : Value}
end
namespace Kd
section
variable {α : Type} {d : Kd α} {e base n m : Nat} {ok : Nat → Prop} {w w' : World} {v : Value} {A : Option Addr} {xs : List α}
end
end Kd
end Go.Proofs.YtbpjnkeilhfajaaGreatW.PrintWords
end

section
-- Out of what the kit's printer wrote for this seat: the words that this claim stands on.
/-! ### 53. '==' of structs as_ one Bool -/
namespace Go.Proofs.YtbpjnkeilhfajaaGreatW.PrintWords
open Go.RowKit
section
variable {P : Program} {d : Nat} {xs ys : Array Value} {f : Field} {fs : List Field} {a b : Value} {r s : Bool} {w : World}
end
end Go.Proofs.YtbpjnkeilhfajaaGreatW.PrintWords
end

section
-- Out of what the kit's printer wrote for this seat: the words that this claim stands on.
/-! ### 50. A region's order in a table, made once a region: each step asks the table (numbers alone), not the operations -/
namespace Go.Proofs.YtbpjnkeilhfajaaGreatW.PrintLast
open Go.Proofs.YtbpjnkeilhfajaaGreatW.PrintWords (Aside0)
section
variable {md : Region.Mode} {ops : Array Oper} {T : Bool × List (List Nat × List Nat)} {l l' li lj lk : Array Bool} {ds : List Nat} {i j k : Nat}
theorem gd (l : Array Bool) (j : Nat) (b : Bool) : l.getD j b = l.toList.getD j b := by simp [Array.getD_eq_getD_getElem?, List.getD_eq_getElem?_getD]
end
end Go.Proofs.YtbpjnkeilhfajaaGreatW.PrintLast
end

section
-- Out of what the kit's printer wrote for this seat: the words that this claim stands on.
/-! ### 56. Four, five, six operations that may come up next, in any order -/
namespace Go.Proofs.YtbpjnkeilhfajaaGreatW.PrintLast
section
variable {P : Program} {ops : Array Oper} {Q : Exit → Act → World → Prop} {md : Region.Mode} {S : World → Prop} {ds : List Nat} {T : Bool × List (List Nat × List Nat)}
end
end Go.Proofs.YtbpjnkeilhfajaaGreatW.PrintLast
end

section
-- Out of what the kit's printer wrote for this seat: the words that this claim stands on.
/-! ### 58. A guarded operation whose guard is known to want it: the same goal without the guard -/
namespace Go.Proofs.YtbpjnkeilhfajaaGreatW.PrintWords
open Go.RowKit
section
variable {P : Program} {ops : Array Oper} {rest : List Oper} {o : Oper} {a : Act} {Q : Exit → Act → World → Prop} {W : World}
end
end Go.Proofs.YtbpjnkeilhfajaaGreatW.PrintWords
end

section
-- Out of what the kit's printer wrote for this seat: the words that this claim stands on.
/-! ### 57. A region of open order by ONE relation over what is listed so far: each operation is shown once, whatever came up before it -/
namespace Go.Proofs.YtbpjnkeilhfajaaGreatW.PrintLast
def up (b : Nat → Bool) (i : Nat) : Nat → Bool := fun j => if j = i then true else b j
section
variable {P : Program} {ops : Array Oper} {Q : Exit → Act → World → Prop} {md : Region.Mode} {T : Bool × List (List Nat × List Nat)} {B : List Nat} {O : List Nat} {b : Nat → Bool} {i j n : Nat}
end
end Go.Proofs.YtbpjnkeilhfajaaGreatW.PrintLast
end

section
-- Out of what the kit's printer wrote for this seat: the words that this claim stands on.
namespace Go.Proofs.YtbpjnkeilhfajaaGreatW.PrintWords
open Go.RowKit
end Go.Proofs.YtbpjnkeilhfajaaGreatW.PrintWords
namespace Go.Proofs.YtbpjnkeilhfajaaGreatW.PrintLast
section
variable {ops : Array Oper} {a : Act} {o og : Oper} {g : Nat} {t : Tmp} {u : Bool}
end
end Go.Proofs.YtbpjnkeilhfajaaGreatW.PrintLast
end

section
-- Out of what the kit's printer wrote for this seat: the words that this claim stands on.
/-! ### 55. Reps told from the front, no append: for rows of one-cell elements and of wider ones -/
namespace Go.Proofs.YtbpjnkeilhfajaaGreatW.PrintWords
theorem Reps.one {α : Type} {R : α → List Value → Prop} {ps : List α} {cs : List Value} {p : α} {v : Value} (hp : R p [v]) (h : Reps R 1 ps cs) : Reps R 1 (p :: ps) (v :: cs) := by
 refine ⟨by simp [h.1], fun j q hq => ?_⟩
 cases j with
 | zero =>
  simp only [List.getElem?_cons_zero, Option.some.injEq] at hq
  subst hq
  simpa using hp
 | succ j =>
  simp only [List.getElem?_cons_succ] at hq
  have h1 := h.2 j q hq
  simpa [Nat.mul_one] using h1
theorem Reps.front {α : Type} {R : α → List Value → Prop} {size : Nat} {ps : List α} {cs c all : List Value} {p : α} (hp : R p c) (hc : c.length = size) (h : Reps R size ps cs) (ha : c ++ cs = all) : Reps R size (p :: ps) all := by
 subst ha
 refine ⟨by rw [List.length_append, hc, h.1, List.length_cons, Nat.succ_mul, Nat.add_comm], fun j q hq => ?_⟩
 cases j with
 | zero =>
  simp only [List.getElem?_cons_zero, Option.some.injEq] at hq
  subst hq
  rw [Nat.zero_mul, List.drop_zero, List.take_append_of_le_length (by omega), List.take_of_length_le (by omega)]
  exact hp
 | succ j =>
  simp only [List.getElem?_cons_succ] at hq
  have h1 := h.2 j q hq
  rw [Nat.succ_mul, List.drop_append, List.drop_of_length_le (by rw [hc]; exact Nat.le_add_left _ _), List.nil_append, hc, Nat.add_sub_cancel]
  exact h1
theorem Reps.c2 {α : Type} {R : α → List Value → Prop} {ps : List α} {cs : List Value} {p : α} {va vb : Value} (hp : R p [va, vb]) (h : Reps R 2 ps cs) : Reps R 2 (p :: ps) (va :: vb :: cs) := Reps.front hp rfl h rfl
theorem Reps.c3 {α : Type} {R : α → List Value → Prop} {ps : List α} {cs : List Value} {p : α} {va vb vc : Value} (hp : R p [va, vb, vc]) (h : Reps R 3 ps cs) : Reps R 3 (p :: ps) (va :: vb :: vc :: cs) := Reps.front hp rfl h rfl
theorem Reps.c4 {α : Type} {R : α → List Value → Prop} {ps : List α} {cs : List Value} {p : α} {va vb vc vd : Value} (hp : R p [va, vb, vc, vd]) (h : Reps R 4 ps cs) : Reps R 4 (p :: ps) (va :: vb :: vc :: vd :: cs) := Reps.front hp rfl h rfl
theorem Reps.c5 {α : Type} {R : α → List Value → Prop} {ps : List α} {cs : List Value} {p : α} {va vb vc vd ve : Value} (hp : R p [va, vb, vc, vd, ve]) (h : Reps R 5 ps cs) : Reps R 5 (p :: ps) (va :: vb :: vc :: vd :: ve :: cs) := Reps.front hp rfl h rfl
theorem Reps.c6 {α : Type} {R : α → List Value → Prop} {ps : List α} {cs : List Value} {p : α} {va vb vc vd ve vf : Value} (hp : R p [va, vb, vc, vd, ve, vf]) (h : Reps R 6 ps cs) : Reps R 6 (p :: ps) (va :: vb :: vc :: vd :: ve :: vf :: cs) := Reps.front hp rfl h rfl
theorem Reps.c7 {α : Type} {R : α → List Value → Prop} {ps : List α} {cs : List Value} {p : α} {va vb vc vd ve vf vg : Value} (hp : R p [va, vb, vc, vd, ve, vf, vg]) (h : Reps R 7 ps cs) : Reps R 7 (p :: ps) (va :: vb :: vc :: vd :: ve :: vf :: vg :: cs) := Reps.front hp rfl h rfl
theorem Reps.c8 {α : Type} {R : α → List Value → Prop} {ps : List α} {cs : List Value} {p : α} {va vb vc vd ve vf vg vh : Value} (hp : R p [va, vb, vc, vd, ve, vf, vg, vh]) (h : Reps R 8 ps cs) : Reps R 8 (p :: ps) (va :: vb :: vc :: vd :: ve :: vf :: vg :: vh :: cs) := Reps.front hp rfl h rfl
theorem Reps.c9 {α : Type} {R : α → List Value → Prop} {ps : List α} {cs : List Value} {p : α} {va vb vc vd ve vf vg vh vi : Value} (hp : R p [va, vb, vc, vd, ve, vf, vg, vh, vi]) (h : Reps R 9 ps cs) : Reps R 9 (p :: ps) (va :: vb :: vc :: vd :: ve :: vf :: vg :: vh :: vi :: cs) := Reps.front hp rfl h rfl
end Go.Proofs.YtbpjnkeilhfajaaGreatW.PrintWords
end

section
/- The kinds of api.Row and num.Rat in memory, as the printer of the kit writes them. -/
namespace Go.Proofs.YtbpjnkeilhfajaaGreat.Ln
open Go.RowKit Go.Proofs.YtbpjnkeilhfajaaGreatW.PrintWords Go.Proofs.YtbpjnkeilhfajaaGreatW.PrintLast Go.Proofs.YtbpjnkeilhfajaaGreatW.PrintMore
set_option linter.unusedVariables false
set_option linter.unusedSimpArgs false
structure S40 where
 f0 : (List Int)
 f1 : Int
def z40 : S40 := ⟨([] : List Int), (0 : Int)⟩
def k40 : Kd S40 := Kd.iso (Kd.pair (Kd.slice 2 (Kd.int .i64)) (Kd.int .i64)) (fun x : S40 => (x.f0, x.f1))
theorem k40_open {w : World} {x : S40} {cs : List Value} (h : k40.K w x cs) : ∃ A0 c0, cs = [.slice A0 x.f0.length c0, .int .i64 x.f1] ∧ x.f0.length ≤ c0 ∧ (Kd.int .i64).C w A0 x.f0.length x.f0 := by
 obtain ⟨_, _, rfl, ⟨A0, c0, rfl, l0, g0⟩, rfl⟩ := h
 exact ⟨A0, c0, rfl, l0, g0⟩
theorem k40_mk (w : World) (x : S40) {A0 : Option Addr} {c0 : Nat} (l0 : x.f0.length ≤ c0) (g0 : (Kd.int .i64).C w A0 x.f0.length x.f0) : k40.K w x [.slice A0 x.f0.length c0, .int .i64 x.f1] := ⟨[.slice A0 x.f0.length c0], [.int .i64 x.f1], rfl, ⟨A0, c0, rfl, l0, g0⟩, rfl⟩
def rd_T40 (xs : List S40) (i : Int) : S40 := xs.getD i.toNat z40
theorem at_T40 {w : World} {A : Option Addr} {n : Nat} {xs : List S40} (h : Kd.C k40 w A n xs) (i : Int) (h0 : 0 ≤ i) (h1 : i < n) : ∃ ad A0 c0, A = some ad ∧ w.cell? (ad.add (i.toNat * 2)) = some (.slice A0 (rd_T40 xs i).f0.length c0) ∧ w.cell? ⟨(ad.add (i.toNat * 2)).block, (ad.add (i.toNat * 2)).off + 1, none⟩ = some (.int .i64 (rd_T40 xs i).f1) ∧ (rd_T40 xs i).f0.length ≤ c0 ∧ (Kd.int .i64).C w A0 (rd_T40 xs i).f0.length (rd_T40 xs i).f0 := by
 obtain ⟨ad, c, e, _, hK, hc0⟩ := Kd.C_get h z40 i h0 h1
 have hc : ∀ j u, c[j]? = some u → w.cell? (ad.add (i.toNat * 2 + j)) = some u := hc0
 obtain ⟨A0, c0, rfl, l0, g0⟩ := k40_open hK
 exact ⟨ad, A0, c0, e, hc 0 _ rfl, by rw [← add_field _ _ 1 (by omega)]; exact hc 1 _ rfl, l0, g0⟩
structure S28 where
 f0 : Int
 f1 : Int
def z28 : S28 := ⟨(0 : Int), (0 : Int)⟩
def k28 : Kd S28 := Kd.iso (Kd.pair (Kd.int .i64) (Kd.int .i64)) (fun x : S28 => (x.f0, x.f1))
theorem k28_open {w : World} {x : S28} {cs : List Value} (h : k28.K w x cs) : cs = [.int .i64 x.f0, .int .i64 x.f1] := by
 obtain ⟨_, _, rfl, rfl, rfl⟩ := h
 rfl
theorem el_Q {W : World} {A : Option Addr} {l : List S28} (hC : Kd.C k28 W A l.length l) {j : Nat} (h : j < l.length) :
  ∃ ad, A = some ad ∧ W.cell? (ad.add (j * 2)) = some (.int .i64 l[j].f0) ∧ W.cell? ⟨(ad.add (j * 2)).block, (ad.add (j * 2)).off + 1, none⟩ = some (.int .i64 l[j].f1) := by
 obtain ⟨ad, c, e, _, hK, hc0⟩ := Kd.C_get hC z28 (j : Int) (by omega) (by omega)
 rw [Int.toNat_natCast] at hK hc0
 rw [show l.getD j z28 = l[j] by simp [List.getElem?_eq_getElem h]] at hK
 have hc : ∀ i u, c[i]? = some u → W.cell? (ad.add (j * 2 + i)) = some u := hc0
 have := k28_open hK
 subst this
 exact ⟨ad, e, hc 0 _ rfl, by rw [← add_field _ _ 1 (by omega)]; exact hc 1 _ rfl⟩
theorem el_I {W : World} {A : Option Addr} {l : List Int} (hC : (Kd.int .i64).C W A l.length l) {j : Nat} (h : j < l.length) :
  ∃ ad, A = some ad ∧ W.cell? (ad.add j) = some (.int .i64 l[j]) := by
 obtain ⟨ad, c, e, _, hK, hc0⟩ := Kd.C_get hC 0 (j : Int) (by omega) (by omega)
 rw [Int.toNat_natCast] at hK hc0
 rw [show l.getD j 0 = l[j] by simp [List.getElem?_eq_getElem h]] at hK
 have hc : ∀ i u, c[i]? = some u → W.cell? (ad.add (j * 1 + i)) = some u := hc0
 have : c = [.int .i64 l[j]] := hK
 subst this
 exact ⟨ad, e, by have := hc 0 _ rfl; rwa [Nat.mul_one, Nat.add_zero] at this⟩
theorem el_R {W : World} {A : Option Addr} {l : List S40} (hC : Kd.C k40 W A l.length l) {j : Nat} (h : j < l.length) :
  ∃ ad A' c', A = some ad ∧ W.cell? (ad.add (j * 2)) = some (.slice A' l[j].f0.length c') ∧ W.cell? ⟨(ad.add (j * 2)).block, (ad.add (j * 2)).off + 1, none⟩ = some (.int .i64 l[j].f1) ∧ l[j].f0.length ≤ c' ∧ (Kd.int .i64).C W A' l[j].f0.length l[j].f0 := by
 obtain ⟨ad, c, e, _, hK, hc0⟩ := Kd.C_get hC z40 (j : Int) (by omega) (by omega)
 rw [Int.toNat_natCast] at hK hc0
 rw [show l.getD j z40 = l[j] by simp [List.getElem?_eq_getElem h]] at hK
 have hc : ∀ i u, c[i]? = some u → W.cell? (ad.add (j * 2 + i)) = some u := hc0
 obtain ⟨A3, c3, rfl, l3, g3⟩ := k40_open hK
 exact ⟨ad, A3, c3, e, hc 0 _ rfl, by rw [← add_field _ _ 1 (by omega)]; exact hc 1 _ rfl, l3, g3⟩
end Go.Proofs.YtbpjnkeilhfajaaGreat.Ln
end
