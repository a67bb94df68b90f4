/- Plain: linear.CheckPoint and linear.CheckFarkas; there is not both; linear.Solve. -/
import Derived.Test.YtdkbnbebioflaaaLinS
namespace Go.Proofs.Ytdkbnbebioflaaa.Lin
open Go.RowKit Go.Proofs.Ytdkbnbebioflaaa.Given Go.Proofs.Ytdkbnbebioflaaa.Num Go.Proofs.Ytdkbnbebioflaaa.Sim
set_option linter.unusedVariables false
set_option linter.unusedSimpArgs false

/-- A row: its numbers, and K. -/
abbrev RowZ := List Int × Int
def holdF : List Int → List Rat → Rat → Option Rat
  | c :: cs, x :: xs, s => (okQ ((c : Rat) * x)).bind fun y => (okQ (s + y)).bind fun z => holdF cs xs z
  | _, _, s => some s
def checkRow (r : RowZ) (p : List Rat) : Bool := decide (r.1.length = p.length) && match holdF r.1 p (r.2 : Rat) with
  | some s => decide (s ≤ 0)
  | none => false
def checkPoint (rows : List RowZ) (p : List Rat) : Bool := rows.all (checkRow · p)
def weighF : List Int → List Int → Int → Option Int
  | w :: ws, c :: cs, s => (okI (w * c)).bind fun y => (okI (s + y)).bind fun z => weighF ws cs z
  | _, _, s => some s
def colZ (rows : List RowZ) (k : Nat) : List Int := rows.map fun r => r.1.getD k 0
def kZ (rows : List RowZ) : List Int := rows.map fun r => r.2
def widthZ (rows : List RowZ) : Nat := match rows with
  | [] => 0
  | r :: _ => r.1.length
def checkFarkas (rows : List RowZ) (w : List Int) : Bool :=
  decide (rows.length = w.length) && w.all (fun x => decide (0 ≤ x)) && decide (rows ≠ []) && rows.all (fun r => decide (r.1.length = widthZ rows)) &&
  (List.range (widthZ rows)).all (fun k => weighF w (colZ rows k) 0 == some 0) && match weighF w (kZ rows) 0 with
  | some s => decide (0 < s)
  | none => false

theorem okQ_some {x y : Rat} (h : okQ x = some y) : y = x := by
  unfold okQ at h
  split at h
  · exact (Option.some.inj h).symm
  · cases h
theorem okI_some {x y : Int} (h : okI x = some y) : y = x := by
  unfold okI at h
  split at h
  · exact (Option.some.inj h).symm
  · cases h
theorem sumN_shift (f : Nat → Rat) (n : Nat) : sumN (n + 1) f = f 0 + sumN n (fun k => f (k + 1)) := by
  induction n with
  | zero => rw [sumN, sumN, sumN]; grind
  | succ n ih => rw [sumN, ih, sumN]; grind
theorem holdF_some : ∀ {cs : List Int} {xs : List Rat} {s r : Rat}, cs.length = xs.length → holdF cs xs s = some r → r = s + sumN cs.length (fun k => ((cs.getD k 0 : Int) : Rat) * rdQ xs k)
  | [], [], s, r, _, h => by rw [show holdF [] [] s = some s from rfl] at h; rw [← Option.some.inj h]; simp [sumN]; grind
  | [], x :: xs, s, r, hl, h => by simp at hl
  | c :: cs, [], s, r, hl, h => by simp at hl
  | c :: cs, x :: xs, s, r, hl, h => by
    rw [holdF] at h
    obtain ⟨y, h1, h⟩ := Option.bind_eq_some_iff.1 h
    obtain ⟨z, h2, h⟩ := Option.bind_eq_some_iff.1 h
    have ih := holdF_some (by simpa using hl) h
    rw [okQ_some h1] at h2
    rw [okQ_some h2] at ih
    rw [ih, List.length_cons, sumN_shift]
    show _ = s + ((c : Rat) * x + _)
    have : ∀ k, (((c :: cs).getD (k + 1) 0 : Int) : Rat) * rdQ (x :: xs) (k + 1) = ((cs.getD k 0 : Int) : Rat) * rdQ xs k := fun k => rfl
    simp only [this]; grind
theorem weighF_some : ∀ {ws cs : List Int} {s r : Int}, ws.length = cs.length → weighF ws cs s = some r → (r : Rat) = (s : Rat) + sumN ws.length (fun k => ((ws.getD k 0 : Int) : Rat) * ((cs.getD k 0 : Int) : Rat))
  | [], [], s, r, _, h => by rw [show weighF [] [] s = some s from rfl] at h; rw [← Option.some.inj h]; simp [sumN]; grind
  | [], x :: xs, s, r, hl, h => by simp at hl
  | c :: cs, [], s, r, hl, h => by simp at hl
  | c :: cs, x :: xs, s, r, hl, h => by
    rw [weighF] at h
    obtain ⟨y, h1, h⟩ := Option.bind_eq_some_iff.1 h
    obtain ⟨z, h2, h⟩ := Option.bind_eq_some_iff.1 h
    have ih := weighF_some (by simpa using hl) h
    rw [okI_some h1] at h2
    rw [okI_some h2, Rat.intCast_add, Rat.intCast_mul] at ih
    rw [ih, List.length_cons, sumN_shift]
    show _ = (s : Rat) + ((c : Rat) * (x : Rat) + _)
    have : ∀ k, (((c :: cs).getD (k + 1) 0 : Int) : Rat) * (((x :: xs).getD (k + 1) 0 : Int) : Rat) = ((cs.getD k 0 : Int) : Rat) * ((xs.getD k 0 : Int) : Rat) := fun k => rfl
    simp only [this]; grind
/-- A row's numbers, by place. -/
def cz (rows : List RowZ) (j k : Nat) : Int := (rows.getD j ([], 0)).1.getD k 0
def kz (rows : List RowZ) (j : Nat) : Int := (rows.getD j ([], 0)).2
theorem colZ_get (rows : List RowZ) {j : Nat} (k : Nat) (h : j < rows.length) : (colZ rows k).getD j 0 = cz rows j k := by
  unfold colZ cz; simp [List.getElem?_eq_getElem h]
theorem kZ_get (rows : List RowZ) {j : Nat} (h : j < rows.length) : (kZ rows).getD j 0 = kz rows j := by
  unfold kZ kz; simp [List.getElem?_eq_getElem h]
/-- What CheckPoint says. -/
theorem point_true {rows : List RowZ} {p : List Rat} (h : checkPoint rows p = true) : ∀ j, j < rows.length → (rows.getD j ([], 0)).1.length = p.length ∧ (kz rows j : Rat) + sumN p.length (fun k => (cz rows j k : Rat) * rdQ p k) ≤ 0 := by
  intro j hj
  unfold checkPoint at h
  have h1 := List.all_eq_true.1 h rows[j] (List.getElem_mem hj)
  unfold checkRow at h1
  rw [Bool.and_eq_true, decide_eq_true_eq] at h1
  obtain ⟨h1, h2⟩ := h1
  have e : rows.getD j ([], 0) = rows[j] := by simp [List.getElem?_eq_getElem hj]
  unfold kz cz
  rw [e]
  refine ⟨h1, ?_⟩
  cases hh : holdF rows[j].1 p (rows[j].2 : Rat) with
  | none => rw [hh] at h2; cases h2
  | some r =>
    rw [hh] at h2
    have := holdF_some h1 hh
    rw [h1] at this
    rw [← this]
    simpa using h2
/-- What CheckFarkas says. -/
theorem farkas_true {rows : List RowZ} {w : List Int} (h : checkFarkas rows w = true) :
    rows ≠ [] ∧ w.length = rows.length ∧ (∀ j, j < rows.length → 0 ≤ w.getD j 0 ∧ (rows.getD j ([], 0)).1.length = widthZ rows) ∧ (∀ k, k < widthZ rows → sumN rows.length (fun j => ((w.getD j 0 : Int) : Rat) * (cz rows j k : Rat)) = 0) ∧ 0 < sumN rows.length (fun j => ((w.getD j 0 : Int) : Rat) * (kz rows j : Rat)) := by
  unfold checkFarkas at h
  simp only [Bool.and_eq_true, decide_eq_true_eq, List.all_eq_true, List.mem_range, beq_iff_eq] at h
  obtain ⟨⟨⟨⟨⟨h1, h2⟩, h3⟩, h4⟩, h5⟩, h6⟩ := h
  refine ⟨h3, h1.symm, fun j hj => ⟨?_, ?_⟩, fun k hk => ?_, ?_⟩
  · have hj' : j < w.length := by omega
    have := h2 w[j] (List.getElem_mem hj')
    simpa [List.getElem?_eq_getElem hj'] using this
  · have := h4 rows[j] (List.getElem_mem hj)
    simpa [List.getElem?_eq_getElem hj] using this
  · have := weighF_some (by unfold colZ; rw [List.length_map]; exact h1.symm) (h5 k hk)
    rw [← h1] at this
    rw [sumN_congr (g := fun j => ((w.getD j 0 : Int) : Rat) * (((colZ rows k).getD j 0 : Int) : Rat)) (fun j hj => by rw [colZ_get rows k hj])]
    have z : ((0 : Int) : Rat) = 0 := rfl
    rw [z] at this
    grind
  · cases hh : weighF w (kZ rows) 0 with
    | none => rw [hh] at h6; cases h6
    | some r =>
      rw [hh] at h6
      have h6 : 0 < r := by simpa using h6
      have := weighF_some (by unfold kZ; rw [List.length_map]; exact h1.symm) hh
      rw [← h1] at this
      rw [sumN_congr (g := fun j => ((w.getD j 0 : Int) : Rat) * (((kZ rows).getD j 0 : Int) : Rat)) (fun j hj => by rw [kZ_get rows hj])]
      have z : ((0 : Int) : Rat) = 0 := rfl
      rw [z] at this
      have h7 : ((0 : Int) : Rat) < (r : Rat) := Rat.intCast_lt_intCast.2 h6
      rw [z] at h7
      grind
/-- There is not both. -/
theorem never {rows : List RowZ} {p : List Rat} {w : List Int} (hp : checkPoint rows p = true) (hw : checkFarkas rows w = true) : False := by
  obtain ⟨h0, h1, h2, h3, h4⟩ := farkas_true hw
  have hpt := point_true hp
  have hn : 0 < rows.length := List.length_pos_iff.2 h0
  have hlen : p.length = widthZ rows := by rw [← (hpt 0 hn).1, (h2 0 hn).2]
  refine not_both (n := p.length) (m := rows.length) (C := fun j k => (cz rows j k : Rat)) (K := fun j => (kz rows j : Rat)) (y := fun j => ((w.getD j 0 : Int) : Rat)) (x := rdQ p) (fun j hj => ?_) (fun j hj => ?_) (fun k hk => h3 k (by omega)) h4
  · have := (hpt j hj).2; grind
  · have := Rat.intCast_le_intCast.2 (h2 j hj).1; exact this

/-! With room. -/
end Go.Proofs.Ytdkbnbebioflaaa.Lin
