import Derived.Test.YtdkbnbebioflaaaSimA
import Derived.Test.YtdkbnbebioflaaaNumF
import Derived.Test.YtdkbnbebioflaaaNumS
section
/- Plain: linear.CheckPoint and linear.CheckFarkas; there is not both; linear.Solve. -/
namespace Go.Proofs.Ytdkbnbebioflaaa.Lin
open Go.RowKit Go.Proofs.Ytdkbnbebioflaaa.Given Go.Proofs.Ytdkbnbebioflaaa.Num Go.Proofs.Ytdkbnbebioflaaa.Sim
set_option linter.unusedVariables false
set_option linter.unusedSimpArgs false
abbrev RowZ := List Int × Int
def holdF : List Int → List Rat → Rat → Option Rat
 | c :: cs, x :: xs, s => (okQ ((c : Rat) * x)).bind fun y => (okQ (s + y)).bind fun z => holdF cs xs z
 | _, _, s => some s
def checkRow (r : RowZ) (p : List Rat) : Bool := decide (r.1.length = p.length) && match holdF r.1 p (r.2 : Rat) with
 | some s => decide (s ≤ 0)
 | none => false
def checkPoint (rows : List RowZ) (p : List Rat) : Bool := rows.all (checkRow · p)
def weighF : List Int → List Int → Int → Option Int
 | w :: ws, c :: cs, s => (okI (w * c)).bind fun y => (okI (s + y)).bind fun z => weighF ws cs z
 | _, _, s => some s
def colZ (rows : List RowZ) (k : Nat) : List Int := rows.map fun r => r.1.getD k 0
def kZ (rows : List RowZ) : List Int := rows.map fun r => r.2
def widthZ (rows : List RowZ) : Nat := match rows with
 | [] => 0
 | r :: _ => r.1.length
def checkFarkas (rows : List RowZ) (w : List Int) : Bool :=
 decide (rows.length = w.length) && w.all (fun x => decide (0 ≤ x)) && decide (rows ≠ []) && rows.all (fun r => decide (r.1.length = widthZ rows)) &&
 (List.range (widthZ rows)).all (fun k => weighF w (colZ rows k) 0 == some 0) && match weighF w (kZ rows) 0 with
 | some s => decide (0 < s)
 | none => false
theorem okQ_some {x y : Rat} (h : okQ x = some y) : y = x := by
 unfold okQ at h
 split at h
 ·exact (Option.some.inj h).symm
 ·cases h
theorem okI_some {x y : Int} (h : okI x = some y) : y = x := by
 unfold okI at h
 split at h
 ·exact (Option.some.inj h).symm
 ·cases h
theorem sumN_shift (f : Nat → Rat) (n : Nat) : sumN (n + 1) f = f 0 + sumN n (fun k => f (k + 1)) := by
 induction n with
 | zero => rw [sumN, sumN, sumN]; grind
 | succ n ih => rw [sumN, ih, sumN]; grind
theorem holdF_some : ∀ {cs : List Int} {xs : List Rat} {s r : Rat}, cs.length = xs.length → holdF cs xs s = some r → r = s + sumN cs.length (fun k => ((cs.getD k 0 : Int) : Rat) * rdQ xs k)
 | [], [], s, r, _, h => by rw [show holdF [] [] s = some s from rfl] at h; rw [← Option.some.inj h]; simp [sumN]; grind
 | [], x :: xs, s, r, hl, h => by simp at hl
 | c :: cs, [], s, r, hl, h => by simp at hl
 | c :: cs, x :: xs, s, r, hl, h => by
  rw [holdF] at h
  obtain ⟨y, h1, h⟩ := Option.bind_eq_some_iff.1 h
  obtain ⟨z, h2, h⟩ := Option.bind_eq_some_iff.1 h
  have ih := holdF_some (by simpa using hl) h
  rw [okQ_some h1] at h2
  rw [okQ_some h2] at ih
  rw [ih, List.length_cons, sumN_shift]
  show _ = s + ((c : Rat) * x + _)
  have : ∀ k, (((c :: cs).getD (k + 1) 0 : Int) : Rat) * rdQ (x :: xs) (k + 1) = ((cs.getD k 0 : Int) : Rat) * rdQ xs k := fun k => rfl
  simp only [this]; grind
theorem weighF_some : ∀ {ws cs : List Int} {s r : Int}, ws.length = cs.length → weighF ws cs s = some r → (r : Rat) = (s : Rat) + sumN ws.length (fun k => ((ws.getD k 0 : Int) : Rat) * ((cs.getD k 0 : Int) : Rat))
 | [], [], s, r, _, h => by rw [show weighF [] [] s = some s from rfl] at h; rw [← Option.some.inj h]; simp [sumN]; grind
 | [], x :: xs, s, r, hl, h => by simp at hl
 | c :: cs, [], s, r, hl, h => by simp at hl
 | c :: cs, x :: xs, s, r, hl, h => by
  rw [weighF] at h
  obtain ⟨y, h1, h⟩ := Option.bind_eq_some_iff.1 h
  obtain ⟨z, h2, h⟩ := Option.bind_eq_some_iff.1 h
  have ih := weighF_some (by simpa using hl) h
  rw [okI_some h1] at h2
  rw [okI_some h2, Rat.intCast_add, Rat.intCast_mul] at ih
  rw [ih, List.length_cons, sumN_shift]
  show _ = (s : Rat) + ((c : Rat) * (x : Rat) + _)
  have : ∀ k, (((c :: cs).getD (k + 1) 0 : Int) : Rat) * (((x :: xs).getD (k + 1) 0 : Int) : Rat) = ((cs.getD k 0 : Int) : Rat) * ((xs.getD k 0 : Int) : Rat) := fun k => rfl
  simp only [this]; grind
def cz (rows : List RowZ) (j k : Nat) : Int := (rows.getD j ([], 0)).1.getD k 0
def kz (rows : List RowZ) (j : Nat) : Int := (rows.getD j ([], 0)).2
theorem colZ_get (rows : List RowZ) {j : Nat} (k : Nat) (h : j < rows.length) : (colZ rows k).getD j 0 = cz rows j k := by
 unfold colZ cz; simp [List.getElem?_eq_getElem h]
theorem kZ_get (rows : List RowZ) {j : Nat} (h : j < rows.length) : (kZ rows).getD j 0 = kz rows j := by
 unfold kZ kz; simp [List.getElem?_eq_getElem h]
theorem point_true {rows : List RowZ} {p : List Rat} (h : checkPoint rows p = true) : ∀ j, j < rows.length → (rows.getD j ([], 0)).1.length = p.length ∧ (kz rows j : Rat) + sumN p.length (fun k => (cz rows j k : Rat) * rdQ p k) ≤ 0 := by
 intro j hj
 unfold checkPoint at h
 have h1 := List.all_eq_true.1 h rows[j] (List.getElem_mem hj)
 unfold checkRow at h1
 rw [Bool.and_eq_true, decide_eq_true_eq] at h1
 obtain ⟨h1, h2⟩ := h1
 have e : rows.getD j ([], 0) = rows[j] := by simp [List.getElem?_eq_getElem hj]
 unfold kz cz
 rw [e]
 refine ⟨h1, ?_⟩
 cases hh : holdF rows[j].1 p (rows[j].2 : Rat) with
 | none => rw [hh] at h2; cases h2
 | some r =>
  rw [hh] at h2
  have := holdF_some h1 hh
  rw [h1] at this
  rw [← this]
  simpa using h2
theorem farkas_true {rows : List RowZ} {w : List Int} (h : checkFarkas rows w = true) :
  rows ≠ [] ∧ w.length = rows.length ∧ (∀ j, j < rows.length → 0 ≤ w.getD j 0 ∧ (rows.getD j ([], 0)).1.length = widthZ rows) ∧ (∀ k, k < widthZ rows → sumN rows.length (fun j => ((w.getD j 0 : Int) : Rat) * (cz rows j k : Rat)) = 0) ∧ 0 < sumN rows.length (fun j => ((w.getD j 0 : Int) : Rat) * (kz rows j : Rat)) := by
 unfold checkFarkas at h
 simp only [Bool.and_eq_true, decide_eq_true_eq, List.all_eq_true, List.mem_range, beq_iff_eq] at h
 obtain ⟨⟨⟨⟨⟨h1, h2⟩, h3⟩, h4⟩, h5⟩, h6⟩ := h
 refine ⟨h3, h1.symm, fun j hj => ⟨?_, ?_⟩, fun k hk => ?_, ?_⟩
 ·have hj' : j < w.length := by omega
  have := h2 w[j] (List.getElem_mem hj')
  simpa [List.getElem?_eq_getElem hj'] using this
 ·have := h4 rows[j] (List.getElem_mem hj)
  simpa [List.getElem?_eq_getElem hj] using this
 ·have := weighF_some (by unfold colZ; rw [List.length_map]; exact h1.symm) (h5 k hk)
  rw [← h1] at this
  rw [sumN_congr (g := fun j => ((w.getD j 0 : Int) : Rat) * (((colZ rows k).getD j 0 : Int) : Rat)) (fun j hj => by rw [colZ_get rows k hj])]
  have z : ((0 : Int) : Rat) = 0 := rfl
  rw [z] at this
  grind
 ·cases hh : weighF w (kZ rows) 0 with
  | none => rw [hh] at h6; cases h6
  | some r =>
   rw [hh] at h6
   have h6 : 0 < r := by simpa using h6
   have := weighF_some (by unfold kZ; rw [List.length_map]; exact h1.symm) hh
   rw [← h1] at this
   rw [sumN_congr (g := fun j => ((w.getD j 0 : Int) : Rat) * (((kZ rows).getD j 0 : Int) : Rat)) (fun j hj => by rw [kZ_get rows hj])]
   have z : ((0 : Int) : Rat) = 0 := rfl
   rw [z] at this
   have h7 : ((0 : Int) : Rat) < (r : Rat) := Rat.intCast_lt_intCast.2 h6
   rw [z] at h7
   grind
theorem never {rows : List RowZ} {p : List Rat} {w : List Int} (hp : checkPoint rows p = true) (hw : checkFarkas rows w = true) : False := by
 obtain ⟨h0, h1, h2, h3, h4⟩ := farkas_true hw
 have hpt := point_true hp
 have hn : 0 < rows.length := List.length_pos_iff.2 h0
 have hlen : p.length = widthZ rows := by rw [← (hpt 0 hn).1, (h2 0 hn).2]
 refine not_both (n := p.length) (m := rows.length) (C := fun j k => (cz rows j k : Rat)) (K := fun j => (kz rows j : Rat)) (y := fun j => ((w.getD j 0 : Int) : Rat)) (x := rdQ p) (fun j hj => ?_) (fun j hj => ?_) (fun k hk => h3 k (by omega)) h4
 ·have := (hpt j hj).2; grind
 ·have := Rat.intCast_le_intCast.2 (h2 j hj).1; exact this
end Go.Proofs.Ytdkbnbebioflaaa.Lin
end

section
/- Plain: linear.Solve, and what it answers of small rows. -/
namespace Go.Proofs.Ytdkbnbebioflaaa.Lin
open Go.RowKit Go.Proofs.Ytdkbnbebioflaaa.Given Go.Proofs.Ytdkbnbebioflaaa.Num Go.Proofs.Ytdkbnbebioflaaa.Sim
set_option linter.unusedVariables false
set_option linter.unusedSimpArgs false
def limF : List RowZ → Option (List Rat)
 | [] => some []
 | r :: l => (okI (-r.2)).bind fun x => (limF l).bind fun t => some ((x : Rat) :: t)
def made (rows : List RowZ) (vars : Nat) : Option Tab :=
 (limF rows).bind fun lim => some ⟨(List.range rows.length).map (vars + ·), rows.map (fun r => r.1.map (fun c : Int => (c : Rat)) ++ List.replicate (vars + rows.length - r.1.length) 0), List.replicate (vars + rows.length) 0, lim⟩
def mayQ (rows : List RowZ) (vars : Int) : Bool := decide (0 ≤ vars) && decide (vars ≤ 64) && decide (rows.length ≤ 256) && rows.all (fun r => decide ((r.1.length : Int) = vars))
def solve (rows : List RowZ) (vars fuel : Int) : Int × List Rat × List Int :=
 if mayQ rows vars = true then
  match (made rows vars.toNat).bind (loop vars.toNat fuel.toNat) with
  | none => (0, [], [])
  | some (a, p, w) => if a = 1 ∧ checkPoint rows p = false ∨ a = 2 ∧ checkFarkas rows w = false then (0, [], []) else (a, p, w)
 else (0, [], [])
end Go.Proofs.Ytdkbnbebioflaaa.Lin
end

section
/- num's reckoning at rational numbers, as linear meets it; sign, right. -/
namespace Go.Proofs
theorem Z1a0 {p : Prop} (h : p := by first | exact Nat.le_refl _ | (simp; done) | (simp; omega) | omega) : p := h
end Go.Proofs
namespace Go.Proofs.Ytdkbnbebioflaaa.Ln
open Go.RowKit Go.Proofs.Ytdkbnbebioflaaa.Num Go.Proofs.Ytdkbnbebioflaaa.Given Go.Proofs.Ytdkbnbebioflaaa.Lin
set_option linter.unusedVariables false
set_option linter.unusedSimpArgs false
@[reducible, go_sem] def rv (x : Rat) : Value := .agg #[.int .i64 x.num, .int .i64 x.den]
theorem fit64 {x : Rat} (h : Fit x) : In64 x.num ∧ In64 (x.den : Int) := ⟨h.1, by have := h.2; unfold In64; omega⟩
theorem mkQ_ok {x : Rat} (h : Fit x) : mkQ x = (x.num, (x.den : Int), true) := if_pos h
theorem mkQ_no {x : Rat} (h : ¬ Fit x) : mkQ x = (0, 0, false) := if_neg h
theorem int_fit {n : Int} (h : In64 n) : Fit (n : Rat) := ⟨by rw [Rat.num_intCast]; exact h, by rw [Rat.den_intCast]; decide⟩
theorem rv_int (n : Int) : rv (n : Rat) = .agg #[.int .i64 n, .int .i64 1] := by unfold rv; rw [Rat.num_intCast, Rat.den_intCast]; rfl
theorem plus_ok {x y : Rat} (hx : Fit x) (hy : Fit y) (h : Fit (x + y)) (w : World) :
  Calls Try.prog 45 #[rv x, rv y] w fun e w' => e = .returned (.tuple #[rv (x + y), .bool true]) ∧ Below w.heap.size w w' :=
 num_Rat_Plus.calls _ _ _ _ _ _ _ w (by unfold num_Rat_Plus.f; rw [if_pos ⟨(fit64 hx).1, (fit64 hx).2, (fit64 hy).1, (fit64 hy).2⟩, plus_q, mkQ_ok h])
theorem plus_no {x y : Rat} (hx : Fit x) (hy : Fit y) (h : ¬ Fit (x + y)) (w : World) :
  Calls Try.prog 45 #[rv x, rv y] w fun e w' => e = .returned (.tuple #[.agg #[.int .i64 0, .int .i64 0], .bool false]) ∧ Below w.heap.size w w' :=
 num_Rat_Plus.calls _ _ _ _ _ _ _ w (by unfold num_Rat_Plus.f; rw [if_pos ⟨(fit64 hx).1, (fit64 hx).2, (fit64 hy).1, (fit64 hy).2⟩, plus_q, mkQ_no h])
theorem minus_ok {x y : Rat} (hx : Fit x) (hy : Fit y) (h : Fit (x - y)) (w : World) :
  Calls Try.prog 57 #[rv x, rv y] w fun e w' => e = .returned (.tuple #[rv (x - y), .bool true]) ∧ Below w.heap.size w w' :=
 num_Rat_Minus.calls _ _ _ _ _ _ _ w (by unfold num_Rat_Minus.f; rw [if_pos ⟨(fit64 hx).1, (fit64 hx).2, (fit64 hy).1, (fit64 hy).2⟩, minus_q, mkQ_ok h])
theorem minus_no {x y : Rat} (hx : Fit x) (hy : Fit y) (h : ¬ Fit (x - y)) (w : World) :
  Calls Try.prog 57 #[rv x, rv y] w fun e w' => e = .returned (.tuple #[.agg #[.int .i64 0, .int .i64 0], .bool false]) ∧ Below w.heap.size w w' :=
 num_Rat_Minus.calls _ _ _ _ _ _ _ w (by unfold num_Rat_Minus.f; rw [if_pos ⟨(fit64 hx).1, (fit64 hx).2, (fit64 hy).1, (fit64 hy).2⟩, minus_q, mkQ_no h])
theorem times_ok {x y : Rat} (hx : Fit x) (hy : Fit y) (h : Fit (x * y)) (w : World) :
  Calls Try.prog 46 #[rv x, rv y] w fun e w' => e = .returned (.tuple #[rv (x * y), .bool true]) ∧ Below w.heap.size w w' :=
 num_Rat_Times.calls _ _ _ _ _ _ _ w (by unfold num_Rat_Times.f; rw [if_pos ⟨(fit64 hx).1, (fit64 hx).2, (fit64 hy).1, (fit64 hy).2⟩, times_q, mkQ_ok h])
theorem times_no {x y : Rat} (hx : Fit x) (hy : Fit y) (h : ¬ Fit (x * y)) (w : World) :
  Calls Try.prog 46 #[rv x, rv y] w fun e w' => e = .returned (.tuple #[.agg #[.int .i64 0, .int .i64 0], .bool false]) ∧ Below w.heap.size w w' :=
 num_Rat_Times.calls _ _ _ _ _ _ _ w (by unfold num_Rat_Times.f; rw [if_pos ⟨(fit64 hx).1, (fit64 hx).2, (fit64 hy).1, (fit64 hy).2⟩, times_q, mkQ_no h])
theorem over_ok {x y : Rat} (hx : Fit x) (hy : Fit y) (h0 : y ≠ 0) (h : Fit (x / y)) (w : World) :
  Calls Try.prog 60 #[rv x, rv y] w fun e w' => e = .returned (.tuple #[rv (x / y), .bool true]) ∧ Below w.heap.size w w' :=
 num_Rat_Over.calls _ _ _ _ _ _ _ w (by unfold num_Rat_Over.f; rw [if_pos ⟨(fit64 hx).1, (fit64 hx).2, (fit64 hy).1, (fit64 hy).2⟩, over_q _ _ h0, mkQ_ok h])
theorem over_no {x y : Rat} (hx : Fit x) (hy : Fit y) (h0 : y ≠ 0) (h : ¬ Fit (x / y)) (w : World) :
  Calls Try.prog 60 #[rv x, rv y] w fun e w' => e = .returned (.tuple #[.agg #[.int .i64 0, .int .i64 0], .bool false]) ∧ Below w.heap.size w w' :=
 num_Rat_Over.calls _ _ _ _ _ _ _ w (by unfold num_Rat_Over.f; rw [if_pos ⟨(fit64 hx).1, (fit64 hx).2, (fit64 hy).1, (fit64 hy).2⟩, over_q _ _ h0, mkQ_no h])
def cmpQ (x y : Rat) : Int := if x < y then -1 else if x = y then 0 else 1
theorem cmp_is {x y : Rat} (hx : Fit x) (hy : Fit y) (w : World) :
  Calls Try.prog 56 #[rv x, rv y] w fun e w' => e = .returned (.int .i64 (cmpQ x y)) ∧ Below w.heap.size w w' :=
 num_Rat_Cmp.calls _ _ _ _ _ w (by unfold num_Rat_Cmp.f; rw [if_pos ⟨(fit64 hx).1, (fit64 hx).2, (fit64 hy).1, (fit64 hy).2⟩, cmp_q]; rfl)
def sg0 (a : Int) : Int := if a < 0 then -1 else if 0 < a then 1 else 0
theorem isNaN_any (a : Int) (w : World) : Calls Try.prog 79 #[.int .i64 a] w fun e w' => e = .returned (.bool false) ∧ w' = w := by
 go_enter Try.func79, Try.ntmps79
 go_wp2
 go_ret
 simp [go_sem]
theorem compare_any (a : Int) (w : World) : Calls Try.prog 68 #[.int .i64 a, .int .i64 0] w fun e w' => e = .returned (.int .i64 (sg0 a)) ∧ w' = w := by
 have hn := isNaN_any
 have HN := Lib.hid hn
 clear hn
 unfold sg0
 by_cases h1 : a < 0
 ·have e1 : decide (a < 0) = true := decide_eq_true h1
  rw [if_pos h1]
  clear h1
  go_enter Try.func68, Try.ntmps68
  go_wp2_with fail
  refine (HN.out _ _).mono ?_
  rintro e w1 ⟨rfl, rfl⟩
  go_wp2_with fail
  refine (HN.out _ _).mono ?_
  rintro e w1 ⟨rfl, rfl⟩
  go_wp2
  go_ret
  exact ⟨rfl, rfl⟩
 ·have e1 : decide (a < 0) = false := decide_eq_false h1
  rw [if_neg h1]
  clear h1
  by_cases h2 : 0 < a
  ·have e2 : decide (0 < a) = true := decide_eq_true h2
   rw [if_pos h2]
   clear h2
   go_enter Try.func68, Try.ntmps68
   go_wp2_with fail
   refine (HN.out _ _).mono ?_
   rintro e w1 ⟨rfl, rfl⟩
   go_wp2_with fail
   refine (HN.out _ _).mono ?_
   rintro e w1 ⟨rfl, rfl⟩
   go_wp2
   go_ret
   exact ⟨rfl, rfl⟩
  ·have e2 : decide (0 < a) = false := decide_eq_false h2
   rw [if_neg h2]
   clear h2
   go_enter Try.func68, Try.ntmps68
   go_wp2_with fail
   refine (HN.out _ _).mono ?_
   rintro e w1 ⟨rfl, rfl⟩
   go_wp2_with fail
   refine (HN.out _ _).mono ?_
   rintro e w1 ⟨rfl, rfl⟩
   go_wp2
   go_ret
   exact ⟨rfl, rfl⟩
theorem sign_any (p q : Int) (w : World) : Calls Try.prog 47 #[.agg #[.int .i64 p, .int .i64 q]] w fun e w' => e = .returned (.int .i64 (sg0 p)) ∧ Below w.heap.size w w' := by
 have HN := Lib.hid compare_any
 go_enter Try.func47, Try.ntmps47
 go_wp2_with fail
 refine (HN.out _ _).mono ?_
 rintro e w1 ⟨rfl, rfl⟩
 go_wp2
 go_ret
 exact ⟨rfl, (by repeat (first | exact Below.refl _ _ | with_reducible assumption | refine Below.alloc ?_ Z1a0 _ | refine Below.setCell ?_ Z1a0 _ | refine Below.drew ?_ | refine bdrewN ?_ _))⟩
def rightPQ (p q : Int) : Bool := (mk p q).2.2 && (p == (mk p q).1 && q == (mk p q).2.1)
theorem right_any (p q : Int) (w : World) (hp : In64 p) (hq : In64 q) : Calls Try.prog 19 #[.agg #[.int .i64 p, .int .i64 q]] w fun e w' => e = .returned (.bool (rightPQ p q)) ∧ Below w.heap.size w w' := by
 have HM := Lib.hid (fun W => Make_any p q W hp hq)
 clear hp hq
 unfold rightPQ
 obtain ⟨⟨x, y, b⟩, hm⟩ : ∃ r, mk p q = r := ⟨_, rfl⟩
 rw [hm] at HM ⊢
 clear hm
 cases b with
 | true =>
  go_enter Try.func19, Try.ntmps19
  go_wp2_with fail
  refine (HM.out _).mono ?_
  rintro e w1 ⟨rfl, hb1⟩
  obtain ⟨hc, hf⟩ := bcell hb1
  have hz := hb1.size
  have c1 : w1.cell? ⟨w.heap.size, 0, none⟩ = some (.int .i64 p) := by rw [hc _ _ Z1a0]; simp [go_sem]
  have c2 : w1.cell? ⟨w.heap.size, 1, none⟩ = some (.int .i64 q) := by rw [hc _ _ Z1a0]; simp [go_sem]
  have f1 : w1.frozen? ⟨w.heap.size, 0, none⟩ = false := by rw [hf _ _ Z1a0]; simp [go_sem]
  have f2 : w1.frozen? ⟨w.heap.size, 1, none⟩ = false := by rw [hf _ _ Z1a0]; simp [go_sem]
  have hb2 : Below w.heap.size w w1 := ((Below.refl _ _).alloc (Nat.le_refl _) _).trans (hb1.mono (by simp))
  simp at hz
  have hlt : w.heap.size < w1.heap.size := by omega
  have hne : w.heap.size ≠ w1.heap.size := by omega
  have hb3 := Lib.hid hb2
  clear hc hf hb1 hb2
  go_wp2
  all_goals (go_ret; exact ⟨by simp [*], hb3.out.alloc (by omega) _⟩)
 | false =>
  go_enter Try.func19, Try.ntmps19
  go_wp2_with fail
  refine (HM.out _).mono ?_
  rintro e w1 ⟨rfl, hb1⟩
  have hz := hb1.size
  have hb2 : Below w.heap.size w w1 := ((Below.refl _ _).alloc (Nat.le_refl _) _).trans (hb1.mono (by simp))
  simp at hz
  have hb3 := Lib.hid hb2
  clear hb1 hb2
  go_wp2
  go_ret
  exact ⟨by simp, hb3.out.alloc (by omega) _⟩
end Go.Proofs.Ytdkbnbebioflaaa.Ln
end
