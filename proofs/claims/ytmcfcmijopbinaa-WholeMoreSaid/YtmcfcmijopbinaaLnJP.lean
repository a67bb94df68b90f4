import Derived.Test.YtmcfcmijopbinaaLinQ
import Derived.Test.YtmcfcmijopbinaaLnG
import Derived.Test.YtmcfcmijopbinaaTl
import Derived.Test.YtmcfcmijopbinaaWnA
import Derived.Test.YtmcfcmijopbinaaLnD
section
/- Plain: weights that show it show it also twice as large, and with a row more of weight 0. -/
namespace Go.Proofs.Ytmcfcmijopbinaa.Lin
open Go.RowKit Go.Proofs.Ytmcfcmijopbinaa.Given Go.Proofs.Ytmcfcmijopbinaa.Num Go.Proofs.Ytmcfcmijopbinaa.Sim
set_option linter.unusedVariables false
def dotZ : List Int → List Int → Int
 | w :: ws, c :: cs => w * c + dotZ ws cs
 | _, _ => 0
theorem dot_nil (cs : List Int) : dotZ [] cs = 0 := by cases cs <;> rfl
theorem dot_nil' (ws : List Int) : dotZ ws [] = 0 := by cases ws <;> rfl
theorem weigh_nil (cs : List Int) (s : Int) : weighF [] cs s = some s := by cases cs <;> rfl
theorem weigh_nil' (ws : List Int) (s : Int) : weighF ws [] s = some s := by cases ws <;> rfl
theorem mul_bound {w c : Int} {B C : Nat} (hw : w.natAbs ≤ B) (hc : c.natAbs ≤ C) : (w * c).natAbs ≤ B * C := by
 rw [Int.natAbs_mul]; exact Nat.mul_le_mul hw hc
theorem weighF_fits {B C : Nat} : ∀ {ws cs : List Int} {s : Int} {S : Nat}, (∀ w, w ∈ ws → w.natAbs ≤ B) → (∀ c, c ∈ cs → c.natAbs ≤ C) → s.natAbs ≤ S → S + ws.length * (B * C) < 9000000000000000000 → weighF ws cs s = some (s + dotZ ws cs)
 | w :: ws, c :: cs, s, S, hw, hc, hs, hB => by
  have h1 := mul_bound (hw w (List.mem_cons_self ..)) (hc c (List.mem_cons_self ..))
  rw [List.length_cons, Nat.add_mul, Nat.one_mul] at hB
  have hD : ∃ D, D = B * C := ⟨_, rfl⟩
  obtain ⟨D, hD⟩ := hD
  rw [← hD] at h1 hB
  have hE : ∃ E, E = ws.length * D := ⟨_, rfl⟩
  obtain ⟨E, hE⟩ := hE
  have hP : ∃ P, P = w * c := ⟨_, rfl⟩
  obtain ⟨P, hP⟩ := hP
  rw [weighF, dotZ, ← hP]
  rw [← hP] at h1
  rw [← hE] at hB
  have e1 : okI P = some P := if_pos (by unfold In64; omega)
  have e2 : okI (s + P) = some (s + P) := if_pos (by unfold In64; omega)
  rw [e1, Option.bind_some, e2, Option.bind_some, weighF_fits (S := S + D) (fun w hw' => hw w (List.mem_cons_of_mem _ hw')) (fun c hc' => hc c (List.mem_cons_of_mem _ hc')) (by omega) (by rw [← hD, ← hE]; omega)]
  congr 1; omega
 | [], cs, s, S, hw, hc, hs, hB => by
  rw [dot_nil, Int.add_zero, weigh_nil]
 | w :: ws, [], s, S, hw, hc, hs, hB => by
  rw [dot_nil', Int.add_zero, weigh_nil']
end Go.Proofs.Ytmcfcmijopbinaa.Lin
end

section
/- chkF is checkFarkas. -/
namespace Go.Proofs.Ytmcfcmijopbinaa.Ln
open Go.RowKit Go.Proofs.Ytmcfcmijopbinaa.Num Go.Proofs.Ytmcfcmijopbinaa.Given Go.Proofs.Ytmcfcmijopbinaa.Lin Go.Proofs.YtmcfcmijopbinaaW.PrintWords
set_option linter.unusedVariables false
set_option linter.unusedSimpArgs false
theorem colsP_false (l : List S25) (ws : List Int) : ∀ d i, colsP l ws d i false = some false
 | 0, i => by rw [colsP, if_neg (by decide)]
 | d + 1, i => by rw [colsP, if_neg (by decide), colsP_false l ws d (i + 1)]
theorem colsP_true (l : List S25) (ws : List Int) : ∀ d i, outB (colsP l ws d i true) =
  ((List.range' i d).all (fun k => weighF ws (l.map fun r => r.f0.getD k 0) 0 == some 0) && match weighF ws (l.map fun r => r.f1) 0 with | some s => decide (0 < s) | none => false)
 | 0, i => by
  rw [colsP, if_pos rfl, List.range'_zero, List.all_nil, Bool.true_and]
  cases weighF ws (l.map fun r => r.f1) 0 <;> rfl
 | d + 1, i => by
  rw [colsP, if_pos rfl, List.range'_succ, List.all_cons]
  cases h : weighF ws (l.map fun r => r.f0.getD i 0) 0 with
  | none => rfl
  | some s =>
   rw [Option.bind_some]
   cases hs : (s == 0) with
   | true =>
    have e : s = 0 := by simpa using hs
    subst e
    rw [colsP_true l ws d (i + 1)]
    simp
   | false =>
    rw [colsP_false]
    have e : s ≠ 0 := by simpa using hs
    simp [outB, e]
theorem chkF_is (l : List S25) (ws : List Int) : chkF l ws = checkFarkas (l.map toZ) ws := by
 unfold chkF checkFarkas
 by_cases h1 : l.length = ws.length
 ·rw [if_pos h1, List.length_map, decide_eq_true h1, Bool.true_and]
  have e2 : (ws.all fun x => decide (0 ≤ x)) = !(ws.any fun x => decide (x < 0)) := by
   rw [List.all_eq_not_any_not]
   congr 1
   congr 1
   funext x
   by_cases h : x < 0
   ·simp [h]
   ·simp [h]; omega
  rw [e2]
  cases ws.any (fun x => decide (x < 0)) with
  | true => rw [if_pos rfl]; rfl
  | false =>
   rw [if_neg (by decide)]
   cases l with
   | nil => rfl
   | cons r l =>
    rw [if_neg (by simp)]
    have e3 : (((r :: l).map toZ).all fun q => decide (q.1.length = widthZ ((r :: l).map toZ))) = !((r :: l).any fun x => !((x.f0.length : Int) == (((r :: l).getD 0 z25).f0.length : Int))) := by
     show _ = !((r :: l).any fun x => !((x.f0.length : Int) == (r.f0.length : Int)))
     rw [List.all_map, List.all_eq_not_any_not]
     congr 1
     congr 1
     funext x
     show (!decide (x.f0.length = r.f0.length)) = _
     by_cases h : x.f0.length = r.f0.length
     ·simp [h]
     ·simp [h]; omega
    rw [e3]
    have e4 : decide ((r :: l).map toZ ≠ []) = true := by simp
    rw [e4]
    cases (r :: l).any (fun x => !((x.f0.length : Int) == (((r :: l).getD 0 z25).f0.length : Int))) with
    | true => rw [if_pos rfl]; rfl
    | false =>
     rw [if_neg (by decide)]
     show outB (colsP (r :: l) ws r.f0.length 0 true) = _
     rw [colsP_true, ← List.range_eq_range']
     unfold colZ kZ
     simp only [Bool.not_false, Bool.true_and, Bool.and_true, List.map_map]
     rfl
 ·rw [if_neg h1, List.length_map, decide_eq_false h1]; rfl
end Go.Proofs.Ytmcfcmijopbinaa.Ln
end

section
/- linear.may. -/
namespace Go.Proofs
theorem Z1m0 {p : Prop} (h : p := by repeat (first | exact Below.refl _ _ | with_reducible assumption | refine Below.alloc ?_ (by first | exact Nat.le_refl _ | (simp; done) | (simp; omega) | omega) _ | refine Below.setCell ?_ (by first | exact Nat.le_refl _ | (simp; done) | (simp; omega) | omega) _ | refine Below.drew ?_ | refine bdrewN ?_ _)) : p := h
theorem Z1m1 {p : Prop} (h : p := by first | exact Nat.le_refl _ | (simp; done) | (simp; omega) | omega) : p := h
end Go.Proofs
namespace Go.Proofs.Ytmcfcmijopbinaa.Ln
open Go.RowKit Go.Proofs.Ytmcfcmijopbinaa.Num Go.Proofs.Ytmcfcmijopbinaa.Given Go.Proofs.Ytmcfcmijopbinaa.Lin Go.Proofs.YtmcfcmijopbinaaW.PrintWords
set_option linter.unusedVariables false
set_option linter.unusedSimpArgs false
def mayB (l : List S25) (v : Int) : Bool :=
 if 0 ≤ v then if v ≤ 64 then if (l.length : Int) ≤ 256 then !(l.any fun x => !((x.f0.length : Int) == v)) else false else false else false
theorem mayB_is (l : List S25) (v : Int) : mayB l v = mayQ (l.map toZ) v := by
 unfold mayB mayQ
 have e3 : ((l.map toZ).all fun q => decide ((q.1.length : Int) = v)) = !(l.any fun x => !((x.f0.length : Int) == v)) := by
  rw [List.all_map, List.all_eq_not_any_not]
  have : (fun x : S25 => !((fun q : RowZ => decide ((q.1.length : Int) = v)) ∘ toZ) x) = fun x => !((x.f0.length : Int) == v) := by
   funext x
   show (!decide ((x.f0.length : Int) = v)) = _
   by_cases h : (x.f0.length : Int) = v
   ·simp [h]
   ·simp [h]
  rw [this]
 rw [e3, List.length_map]
 by_cases h0 : 0 ≤ v
 ·by_cases h1 : v ≤ 64
  ·by_cases h2 : (l.length : Int) ≤ 256
   ·rw [if_pos h0, if_pos h1, if_pos h2]; simp [h0, h1, show l.length ≤ 256 by omega]
   ·rw [if_pos h0, if_pos h1, if_neg h2]; simp [h0, h1, show ¬ l.length ≤ 256 by omega]
  ·rw [if_pos h0, if_neg h1]; simp [h0, h1]
 ·rw [if_neg h0]; simp [h0]
set_option maxHeartbeats 8000000 in
set_option maxRecDepth 100000 in
theorem may_any (l : List S25) (v : Int) (A : Option Addr) (c : Nat) (w : World) (hC : Kd.C k25 w A l.length l) (hc : l.length ≤ c) :
  Calls Try.prog 24 #[.slice A l.length c, .int .i64 v] w fun e w' => e = .returned (.bool (mayB l v)) ∧ Below w.heap.size w w' := by
 have hmf := run_makeFunc
 have HR := Lib.hid (fun nb w2 (hB : Below w.heap.size w w2) (hnb : w2.cell? ⟨nb, 0, none⟩ = some (.int .i64 v)) => anyM (fun x => !((x.f0.length : Int) == v)) l A c (.pointer (some ⟨nb, 0, none⟩)) w w2 hC hc hB (fun x hx B d W hW => may1_any x B d nb v W (kcell hW hnb)))
 clear hC
 unfold mayB
 by_cases h0 : 0 ≤ v
 ·by_cases h1 : v ≤ 64
  ·by_cases h2 : (l.length : Int) ≤ 256
   ·rw [if_pos h0, if_pos h1, if_pos h2]
    have e0 : decide (0 ≤ v) = true := decide_eq_true h0
    have e1 : decide (v ≤ 64) = true := decide_eq_true h1
    have e2 : decide ((l.length : Int) ≤ 256) = true := decide_eq_true h2
    clear h0 h1 h2
    go_enter Try.func24, Try.ntmps24
    go_wp2_with fail
    refine (HR.out _ _ ?_ ?_).mono ?_
    ·exact Z1m0
    ·exact blk_cell (blk_new w _) 0
    rintro e w1 ⟨rfl, hb1⟩
    go_wp2
    go_ret
    exact ⟨rfl, by refine Below.trans ?_ (hb1.mono Z1m1); exact Z1m0⟩
   ·rw [if_pos h0, if_pos h1, if_neg h2]
    have e0 : decide (0 ≤ v) = true := decide_eq_true h0
    have e1 : decide (v ≤ 64) = true := decide_eq_true h1
    have e2 : decide ((l.length : Int) ≤ 256) = false := decide_eq_false h2
    clear h0 h1 h2
    go_enter Try.func24, Try.ntmps24
    go_wp2
    go_ret
    exact ⟨rfl, Z1m0⟩
  ·rw [if_pos h0, if_neg h1]
   have e0 : decide (0 ≤ v) = true := decide_eq_true h0
   have e1 : decide (v ≤ 64) = false := decide_eq_false h1
   clear h0 h1
   go_enter Try.func24, Try.ntmps24
   go_wp2
   go_ret
   exact ⟨rfl, Z1m0⟩
 ·rw [if_neg h0]
  have e0 : decide (0 ≤ v) = false := decide_eq_false h0
  clear h0
  go_enter Try.func24, Try.ntmps24
  go_wp2
  go_ret
  exact ⟨rfl, Z1m0⟩
end Go.Proofs.Ytmcfcmijopbinaa.Ln
end

section
/- linear's CheckPoint and CheckFarkas, in the form in which a printed text meets a callee. -/
namespace Go.Proofs.Ytmcfcmijopbinaa.Given
open Go.RowKit Go.Proofs.Ytmcfcmijopbinaa.Num Go.Proofs.Ytmcfcmijopbinaa.Ln Go.Proofs.YtmcfcmijopbinaaW.PrintWords
def RowIn (r : S25) : Prop := In64 r.f1 ∧ ∀ x, x ∈ r.f0 → In64 x
instance (r : S25) : Decidable (RowIn r) := by unfold RowIn In64; infer_instance
def RatIn (x : S43) : Prop := In64 x.f0 ∧ In64 x.f1
instance (x : S43) : Decidable (RatIn x) := by unfold RatIn In64; infer_instance
instance (x : Int) : Decidable (In64 x) := by unfold In64; infer_instance
def linear_CheckPoint.f (l0 : List S25) (l1 : List S43) : Option Bool := if (∀ r, r ∈ l0 → RowIn r) ∧ ∀ x, x ∈ l1 → RatIn x then some (chkP l0 l1) else none
theorem linear_CheckPoint.calls (A0 : Option Addr) (c0 : Nat) (l0 : List S25) (A1 : Option Addr) (c1 : Nat) (l1 : List S43) (r : Bool) (w : World) (hr0 : Kd.C k25 w A0 l0.length l0) (hc0 : l0.length ≤ c0) (hr1 : Kd.C k43 w A1 l1.length l1) (hc1 : l1.length ≤ c1) (h : linear_CheckPoint.f l0 l1 = some r) :
  Calls Try.prog 33 #[.slice A0 l0.length c0, .slice A1 l1.length c1] w fun e w' => e = .returned (.bool r) ∧ Below w.heap.size w w' := by
 unfold linear_CheckPoint.f at h
 split at h
 ·rename_i hd
  rw [← Option.some.inj h]
  exact CheckPoint_any l0 l1 A0 A1 c0 c1 w hr0 hc0 hr1 hc1 hd.1 hd.2
 ·cases h
def linear_CheckFarkas.f (l0 : List S25) (l1 : List Int) : Option Bool := if (∀ r, r ∈ l0 → RowIn r) ∧ ∀ x, x ∈ l1 → In64 x then some (chkF l0 l1) else none
theorem linear_CheckFarkas.calls (A0 : Option Addr) (c0 : Nat) (l0 : List S25) (A1 : Option Addr) (c1 : Nat) (l1 : List Int) (r : Bool) (w : World) (hr0 : Kd.C k25 w A0 l0.length l0) (hc0 : l0.length ≤ c0) (hr1 : Kd.C (Kd.int .i64) w A1 l1.length l1) (hc1 : l1.length ≤ c1) (h : linear_CheckFarkas.f l0 l1 = some r) :
  Calls Try.prog 34 #[.slice A0 l0.length c0, .slice A1 l1.length c1] w fun e w' => e = .returned (.bool r) ∧ Below w.heap.size w w' := by
 unfold linear_CheckFarkas.f at h
 split at h
 ·rename_i hd
  rw [← Option.some.inj h]
  exact CheckFarkas_any l0 l1 A0 A1 c0 c1 w hr0 hc0 hr1 hc1 hd.1 hd.2
 ·cases h
end Go.Proofs.Ytmcfcmijopbinaa.Given
end

section
/- Rows of rats of the call's own: read, written. -/
namespace Go.Proofs.Ytmcfcmijopbinaa.Ln
open Go.RowKit Go.Proofs.Ytmcfcmijopbinaa.Num Go.Proofs.Ytmcfcmijopbinaa.Given Go.Proofs.Ytmcfcmijopbinaa.Lin Go.Proofs.YtmcfcmijopbinaaW.PrintWords
set_option linter.unusedVariables false
set_option linter.unusedSimpArgs false
def flatQ : List Rat → List Value
 | [] => []
 | x :: l => .int .i64 x.num :: .int .i64 x.den :: flatQ l
theorem flatQ_len : ∀ l, (flatQ l).length = l.length * 2
 | [] => rfl
 | x :: l => by rw [flatQ, List.length_cons, List.length_cons, flatQ_len l, List.length_cons]; omega
theorem flatQ_app : ∀ l m, flatQ (l ++ m) = flatQ l ++ flatQ m
 | [], m => rfl
 | x :: l, m => by rw [List.cons_append, flatQ, flatQ_app l m, flatQ]; rfl
theorem flatQ_get : ∀ {l : List Rat} {i : Nat} (h : i < l.length), (flatQ l)[i * 2]? = some (.int .i64 l[i].num) ∧ (flatQ l)[i * 2 + 1]? = some (.int .i64 l[i].den)
 | x :: l, 0, h => ⟨rfl, rfl⟩
 | x :: l, i + 1, h => by
  have ih := flatQ_get (l := l) (i := i) (by simpa using h)
  rw [show (i + 1) * 2 = i * 2 + 1 + 1 by omega, flatQ]
  exact ih
theorem flatQ_set : ∀ (l : List Rat) (i : Nat) (x : Rat), flatQ (l.set i x) = ((flatQ l).set (i * 2) (.int .i64 x.num)).set (i * 2 + 1) (.int .i64 x.den)
 | [], i, x => by simp [flatQ]
 | y :: l, 0, x => rfl
 | y :: l, i + 1, x => by
  rw [List.set_cons_succ, flatQ, flatQ_set l i x, show (i + 1) * 2 = i * 2 + 1 + 1 by omega, flatQ]
  rfl
def RowQ (w : World) (base : Nat) (v : Value) (l : List Rat) : Prop := w.ownsRow base 43 2 v l.length (flatQ l)
theorem rowQ_at {w : World} {base : Nat} {v : Value} {l : List Rat} (h : RowQ w base v l) {i : Nat} (hi : i < l.length) :
  ∃ g cap, v = .slice (some ⟨g, 0, none⟩) l.length cap ∧ base ≤ g ∧ l.length ≤ cap ∧ w.cell? ⟨g, i * 2, none⟩ = some (.int .i64 l[i].num) ∧ w.cell? ⟨g, i * 2 + 1, none⟩ = some (.int .i64 l[i].den) ∧ ∀ k, w.frozen? ⟨g, k, none⟩ = false := by
 obtain ⟨hl, hv⟩ := h
 rcases hv with ⟨_, h0⟩ | ⟨g, cap, cur, rfl, hg, hb, hn, hm, hs, ht⟩
 ·omega
 ·obtain ⟨a, b⟩ := flatQ_get hi
  rw [← ht, List.getElem?_take] at a b
  refine ⟨g, cap, rfl, hg, hn, ?_, ?_, fun k => by simp [World.frozen?, hb]⟩
  ·split at a
   ·rw [cell_of_row w g _ cur _ (0, 0) hb]; simpa using a
   ·cases a
  ·split at b
   ·rw [cell_of_row w g _ cur _ (0, 0) hb]; simpa using b
   ·cases b
theorem rowQ_set {w : World} {base g n cap : Nat} {l : List Rat} (h : RowQ w base (.slice (some ⟨g, 0, none⟩) n cap) l) (i : Nat) (hi : i < l.length) (x : Rat) :
  RowQ ((w.setCell ⟨g, i * 2, none⟩ (.int .i64 x.num)).setCell ⟨g, i * 2 + 1, none⟩ (.int .i64 x.den)) base (.slice (some ⟨g, 0, none⟩) n cap) (l.set i x) := by
 obtain ⟨hl, hv⟩ := h
 refine ⟨by rw [flatQ_len], ?_⟩
 rcases hv with ⟨h1, _⟩ | ⟨g', cap', cur, e, hg, hb, hn, hm, hs, ht⟩
 ·cases h1
 ·injection e with e1 e2 e3
  injection e1 with e1
  injection e1 with e1
  subst e1
  subst e2
  subst e3
  refine .inr ⟨g, cap, (cur.setIfInBounds (i * 2) (.int .i64 x.num)).setIfInBounds (i * 2 + 1) (.int .i64 x.den), by rw [List.length_set], hg, blk_put (blk_put hb _ _ rfl) _ _ rfl, by rw [List.length_set]; exact hn, hm, by simpa using hs, ?_⟩
  rw [List.length_set, flatQ_set, ← ht]
  simp only [Array.toList_setIfInBounds, List.take_set]
end Go.Proofs.Ytmcfcmijopbinaa.Ln
end

section
/- The table in memory. -/
namespace Go.Proofs.Ytmcfcmijopbinaa.Ln
open Go.RowKit Go.Proofs.Ytmcfcmijopbinaa.Num Go.Proofs.Ytmcfcmijopbinaa.Given Go.Proofs.Ytmcfcmijopbinaa.Lin Go.Proofs.YtmcfcmijopbinaaW.PrintWords
set_option linter.unusedVariables false
set_option linter.unusedSimpArgs false
def natv (l : List Nat) : List Value := l.map fun n : Nat => Value.int .i64 (n : Int)
def RowN (w : World) (base : Nat) (v : Value) (l : List Nat) : Prop := w.ownsRow base 3 1 v l.length (natv l)
def RowS (w : World) (base : Nat) (v : Value) (l : List Value) : Prop := w.ownsRow base 38 1 v l.length l
theorem one_at {w : World} {base : Nat} {ty : TypeId} {v : Value} {l : List Value} (h : w.ownsRow base ty 1 v l.length l) {i : Nat} (hi : i < l.length) :
  ∃ g cap, v = .slice (some ⟨g, 0, none⟩) l.length cap ∧ base ≤ g ∧ l.length ≤ cap ∧ w.cell? ⟨g, i, none⟩ = some l[i] ∧ (∀ k, w.frozen? ⟨g, k, none⟩ = false) ∧ ∃ cur, w.heap[g]? = some (.cells cur ty (0, 0)) := by
 obtain ⟨hl, hv⟩ := h
 rcases hv with ⟨_, h0⟩ | ⟨g, cap, cur, rfl, hg, hb, hn, hm, hs, ht⟩
 ·omega
 ·refine ⟨g, cap, rfl, hg, hn, ?_, fun k => by simp [World.frozen?, hb], cur, hb⟩
  have a : (List.take (l.length * 1) cur.toList)[i]? = some l[i] := by rw [ht]; exact List.getElem?_eq_getElem hi
  rw [List.getElem?_take_of_lt (by omega)] at a
  rw [cell_of_row w g _ cur _ (0, 0) hb]
  simpa using a
theorem one_set {w : World} {base g n cap : Nat} {ty : TypeId} {l : List Value} (h : w.ownsRow base ty 1 (.slice (some ⟨g, 0, none⟩) n cap) l.length l) (i : Nat) (x : Value) :
  (w.setCell ⟨g, i, none⟩ x).ownsRow base ty 1 (.slice (some ⟨g, 0, none⟩) n cap) (l.set i x).length (l.set i x) := by
 obtain ⟨hl, hv⟩ := h
 refine ⟨by simp, ?_⟩
 rcases hv with ⟨h1, _⟩ | ⟨g', cap', cur, e, hg, hb, hn, hm, hs, ht⟩
 ·cases h1
 ·injection e with e1 e2 e3
  injection e1 with e1
  injection e1 with e1
  subst e1
  subst e2
  subst e3
  refine .inr ⟨g, cap, cur.setIfInBounds i x, by rw [List.length_set], hg, blk_put hb _ _ rfl, by rw [List.length_set]; exact hn, hm, by simpa using hs, ?_⟩
  rw [List.length_set]
  conv => rhs; rw [← ht]
  simp only [Array.toList_setIfInBounds, List.take_set]
theorem rowN_at {w : World} {base : Nat} {v : Value} {l : List Nat} (h : RowN w base v l) {i : Nat} (hi : i < l.length) :
  ∃ g cap, v = .slice (some ⟨g, 0, none⟩) l.length cap ∧ base ≤ g ∧ l.length ≤ cap ∧ w.cell? ⟨g, i, none⟩ = some (.int .i64 (l[i] : Int)) ∧ (∀ k, w.frozen? ⟨g, k, none⟩ = false) ∧ ∃ cur, w.heap[g]? = some (.cells cur 3 (0, 0)) := by
 have e : l.length = (natv l).length := by simp [natv]
 unfold RowN at h
 rw [e] at h
 obtain ⟨g, cap, h1, h2, h3, h4, h5, h6⟩ := one_at h (show i < (natv l).length by omega)
 rw [← e] at h1 h3
 exact ⟨g, cap, h1, h2, h3, by simpa [natv] using h4, h5, h6⟩
theorem rowN_set {w : World} {base g n cap : Nat} {l : List Nat} (h : RowN w base (.slice (some ⟨g, 0, none⟩) n cap) l) (i x : Nat) :
  RowN (w.setCell ⟨g, i, none⟩ (.int .i64 (x : Int))) base (.slice (some ⟨g, 0, none⟩) n cap) (l.set i x) := by
 have e : l.length = (natv l).length := by simp [natv]
 unfold RowN at h ⊢
 rw [e] at h
 have h2 := one_set h i (.int .i64 (x : Int))
 rw [List.length_set, ← e] at h2
 rw [List.length_set]
 have e2 : natv (l.set i x) = (natv l).set i (.int .i64 (x : Int)) := by simp [natv, List.map_set]
 rw [e2]
 exact h2
def Unlike (a b : Value) : Prop := ∀ k, a.ownBlock = some k → b.ownBlock ≠ some k
structure TabAt (w : World) (base tb vars : Nat) (t : Tab) (vb vr vv vl : Value) (rs : List Value) : Prop where
 box : w.heap[tb]? = some (.cells #[.int .i64 vars, vb, vr, vv, vl] 61 (0, 0))
 basic : RowN w base vb t.basic
 rows : RowS w base vr rs
 len : rs.length = t.rows.length
 row : ∀ j (h : j < rs.length), RowQ w base rs[j] (rdR t.rows j)
 value : RowQ w base vv t.value
 limits : RowQ w base vl t.limits
 apart : List.Pairwise Unlike (vv :: vl :: rs)
theorem RowQ.below {w w1 : World} {base : Nat} {v : Value} {l : List Rat} (h : RowQ w base v l) (hb : Below w.heap.size w w1) : RowQ w1 base v l := pw_own_below h hb
theorem RowN.below {w w1 : World} {base : Nat} {v : Value} {l : List Nat} (h : RowN w base v l) (hb : Below w.heap.size w w1) : RowN w1 base v l := pw_own_below h hb
theorem RowS.below {w w1 : World} {base : Nat} {v : Value} {l : List Value} (h : RowS w base v l) (hb : Below w.heap.size w w1) : RowS w1 base v l := pw_own_below h hb
theorem TabAt.below {w w1 : World} {base tb vars : Nat} {t : Tab} {vb vr vv vl : Value} {rs : List Value} (h : TabAt w base tb vars t vb vr vv vl rs) (hb : Below w.heap.size w w1) : TabAt w1 base tb vars t vb vr vv vl rs :=
 ⟨blk_below h.box hb, h.basic.below hb, h.rows.below hb, h.len, fun j hj => (h.row j hj).below hb, h.value.below hb, h.limits.below hb, h.apart⟩
structure WfT (vars : Nat) (t : Tab) : Prop where
 vl : t.value.length = vars + t.limits.length
 bl : t.basic.length = t.limits.length
 rl : t.rows.length = t.limits.length
 cl : ∀ j, j < t.rows.length → (rdR t.rows j).length = t.value.length
 bas : ∀ j, j < t.basic.length → rdN t.basic j < t.value.length
 fv : ∀ j, Fit (rdQ t.value j)
 fl : ∀ j, Fit (rdQ t.limits j)
 fr : ∀ i j, Fit (rdQ (rdR t.rows i) j)
 max : t.value.length ≤ 4096
theorem rdQ_get {l : List Rat} {i : Nat} (h : i < l.length) : l[i] = rdQ l i := by simp [rdQ, List.getElem?_eq_getElem h]
theorem rdN_get {l : List Nat} {i : Nat} (h : i < l.length) : l[i] = rdN l i := by simp [rdN, List.getElem?_eq_getElem h]
theorem rdR_get {l : List (List Rat)} {i : Nat} (h : i < l.length) : l[i] = rdR l i := by simp [rdR, List.getElem?_eq_getElem h]
end Go.Proofs.Ytmcfcmijopbinaa.Ln
end

section
/- What a walk through a region of open order holds on to: cells of a world, and what lies below; rows of whole numbers, rows of rows. -/
namespace Go.Proofs.Ytmcfcmijopbinaa.Ln
open Go.RowKit Go.Proofs.Ytmcfcmijopbinaa.Num Go.Proofs.Ytmcfcmijopbinaa.Given Go.Proofs.Ytmcfcmijopbinaa.Lin Go.Proofs.YtmcfcmijopbinaaW.PrintWords
set_option linter.unusedVariables false
set_option linter.unusedSimpArgs false
theorem wrapsub {a b : Nat} (h : b ≤ a) (k : a < 9223372036854775808) : wrap64 ((a : Int) - (b : Int)) = ((a - b : Nat) : Int) := by unfold wrap64; omega
def Cells : List (Addr × Value) → World → Prop
 | [], _ => True
 | (a, v) :: l, w => w.cell? a = some v ∧ Cells l w
theorem Cells.keep {w w1 : World} (hb : Below w.heap.size w w1) : ∀ {l : List (Addr × Value)}, Cells l w → Cells l w1
 | [], h => h
 | (a, v) :: l, h => ⟨kcell hb h.1, Cells.keep hb h.2⟩
structure Hd (l : List (Addr × Value)) (W : World) (base : Nat) (w : World) : Prop where
 le : base ≤ W.heap.size
 cells : Cells l w
 below : Below base W w
theorem Hd.size {l : List (Addr × Value)} {W w : World} {base : Nat} (h : Hd l W base w) : base ≤ w.heap.size := Nat.le_trans h.le h.below.size
theorem Hd.keep {l : List (Addr × Value)} {W w w1 : World} {base : Nat} (h : Hd l W base w) (hb : Below w.heap.size w w1) : Hd l W base w1 :=
 ⟨h.le, h.cells.keep hb, h.below.trans (hb.mono h.size)⟩
theorem Hd.drew {l : List (Addr × Value)} {W w : World} {base : Nat} (h : Hd l W base w) : Hd l W base w.drew := ⟨h.le, h.cells.keep ((Below.refl _ _).drew), h.below.drew⟩
theorem al_new {P : Program} {o : Oper} {ops : Array Oper} {a : Act} {w : World} {K : Act → World → Prop} {Q : Exit → Act → World → Prop} (ob : Obj)
  (hw : Region.wanted o (yielded ops a.tmps) = true)
  (hrun : ∀ w : World, (execOp a.eval o).run P w = .ok (.value (.pointer (some ⟨w.heap.size, 0, none⟩))) (w.alloc ob))
  (h : ∀ (g : Nat) (w2 : World), g = w.heap.size → Below w.heap.size w w2 → Hid (w2.heap[g]? = some ob ∧ g < w2.heap.size) → K (a.put o.dst (.pointer (some ⟨g, 0, none⟩))) w2) :
  if Region.wanted o (yielded ops a.tmps) = true then Oper.wp P o a w K Q else K (a.put o.dst undef) w := by
 rw [if_pos hw]
 unfold Oper.wp
 rw [hrun, Oper.upon_value]
 exact h _ _ rfl ((Below.refl _ _).alloc (Nat.le_refl _) _) (Lib.hid ⟨blk_new _ _, by simp⟩)
theorem hp_keep {w w2 : World} {g : Nat} {o : Obj} (h : Hid (w.heap[g]? = some o ∧ g < w.heap.size)) (hb : Below w.heap.size w w2) : Hid (w2.heap[g]? = some o ∧ g < w2.heap.size) :=
 Lib.hid ⟨blk_below h.out.1 hb, Nat.lt_of_lt_of_le h.out.2 hb.size⟩
theorem box1 {w : World} {g : Nat} {x : Value} {ty : TypeId} (h : Hid (w.heap[g]? = some (.cells #[x] ty (0, 0)) ∧ g < w.heap.size)) :
  w.cell? ⟨g, 0, none⟩ = some x ∧ w.frozen? ⟨g, 0, none⟩ = false := ⟨blk_cell h.out.1 0, blk_frozen h.out.1 0⟩
theorem box2 {w : World} {g : Nat} {x y : Value} {ty : TypeId} (h : Hid (w.heap[g]? = some (.cells #[x, y] ty (0, 0)) ∧ g < w.heap.size)) :
  w.cell? ⟨g, 0, none⟩ = some x ∧ w.cell? ⟨g, 1, none⟩ = some y ∧ w.frozen? ⟨g, 0, none⟩ = false ∧ w.frozen? ⟨g, 1, none⟩ = false := ⟨blk_cell h.out.1 0, blk_cell h.out.1 1, blk_frozen h.out.1 0, blk_frozen h.out.1 1⟩
theorem rowQ_rd {w : World} {base : Nat} {v : Value} {l : List Rat} (h : RowQ w base v l) {i : Nat} (hi : i < l.length) :
  ∃ g cap, v = .slice (some ⟨g, 0, none⟩) l.length cap ∧ base ≤ g ∧ l.length ≤ cap ∧ w.cell? ⟨g, i * 2, none⟩ = some (.int .i64 (rdQ l i).num) ∧ w.cell? ⟨g, i * 2 + 1, none⟩ = some (.int .i64 (rdQ l i).den) ∧ ∀ k, w.frozen? ⟨g, k, none⟩ = false := by
 rw [← rdQ_get hi]; exact rowQ_at h hi
theorem rowN_rd {w : World} {base : Nat} {v : Value} {l : List Nat} (h : RowN w base v l) {i : Nat} (hi : i < l.length) :
  ∃ g cap, v = .slice (some ⟨g, 0, none⟩) l.length cap ∧ base ≤ g ∧ l.length ≤ cap ∧ w.cell? ⟨g, i, none⟩ = some (.int .i64 (rdN l i : Int)) ∧ (∀ k, w.frozen? ⟨g, k, none⟩ = false) ∧ ∃ cur, w.heap[g]? = some (.cells cur 3 (0, 0)) := by
 rw [← rdN_get hi]; exact rowN_at h hi
theorem rowQ_in {w : World} {base g n cap : Nat} {l : List Rat} (h : RowQ w base (.slice (some ⟨g, 0, none⟩) n cap) l) {i : Nat} (hi : i < l.length) :
  w.cell? ⟨g, i * 2, none⟩ = some (.int .i64 (rdQ l i).num) ∧ w.cell? ⟨g, i * 2 + 1, none⟩ = some (.int .i64 (rdQ l i).den) ∧ w.frozen? ⟨g, i * 2, none⟩ = false ∧ w.frozen? ⟨g, i * 2 + 1, none⟩ = false ∧ base ≤ g ∧ n = l.length := by
 obtain ⟨g', cap', e, h1, _, h2, h3, h4⟩ := rowQ_rd h hi
 injection e with e1 e2 e3
 injection e1 with e1
 injection e1 with e1
 subst e1
 exact ⟨h2, h3, h4 _, h4 _, h1, e2⟩
theorem new2 (w : World) (x y : Value) (ty : TypeId) : (w.alloc (.cells #[x, y] ty (0, 0))).cell? ⟨w.heap.size, 0, none⟩ = some x ∧ (w.alloc (.cells #[x, y] ty (0, 0))).cell? ⟨w.heap.size, 1, none⟩ = some y := ⟨blk_cell (blk_new _ _) 0, blk_cell (blk_new _ _) 1⟩
end Go.Proofs.Ytmcfcmijopbinaa.Ln
end

section
/- Helpers: a row built at an address that is a letter; rows of the call's own, kept. -/
namespace Go.Proofs.Ytmcfcmijopbinaa.Ln
open Go.RowKit Go.Proofs.Ytmcfcmijopbinaa.Num Go.Proofs.Ytmcfcmijopbinaa.Given Go.Proofs.Ytmcfcmijopbinaa.Lin Go.Proofs.YtmcfcmijopbinaaW.PrintWords
set_option linter.unusedVariables false
set_option linter.unusedSimpArgs false
theorem infoRow : (Try.prog.info? 25).map (fun i => (i.zero, i.size, i.bytes)) = some (some (.agg #[.slice none 0 0, .int .i64 0]), 2, 32) := by kernel_rfl
theorem sl_newh {P : Program} {o : Oper} {ops : Array Oper} {a : Act} {w : World} {K : Act → World → Prop} {Q : Exit → Act → World → Prop} (ob : Obj) (n : Nat)
  (hw : Region.wanted o (yielded ops a.tmps) = true)
  (hrun : ∀ w : World, (execOp a.eval o).run P w = .ok (.value (.slice (some ⟨w.heap.size, 0, none⟩) n n)) (w.alloc ob))
  (h : ∀ (g : Nat) (w2 : World), Hid (g = w.heap.size) → Below w.heap.size w w2 → Hid (w2.heap[g]? = some ob ∧ g < w2.heap.size) → K (a.put o.dst (.slice (some ⟨g, 0, none⟩) n n)) w2) :
  if Region.wanted o (yielded ops a.tmps) = true then Oper.wp P o a w K Q else K (a.put o.dst undef) w := by
 rw [if_pos hw]
 unfold Oper.wp
 rw [hrun, Oper.upon_value]
 exact h _ _ (Lib.hid rfl) ((Below.refl _ _).alloc (Nat.le_refl _) _) (Lib.hid ⟨blk_new _ _, by simp⟩)
theorem own_keepB {w w1 : World} {base : Nat} {e : TypeId} {size n : Nat} {v : Value} {xs : List Value} (h : Hid (w.ownsRow base e size v n xs)) (hb : Below w.heap.size w w1) : Hid (w1.ownsRow base e size v n xs) := by
 obtain ⟨hl, hv⟩ := h.out
 refine Lib.hid ⟨hl, ?_⟩
 rcases hv with h | ⟨g', cap, cur, rfl, h1, h2, h3⟩
 ·exact .inl h
 ·exact .inr ⟨g', cap, cur, rfl, h1, blk_below h2 hb, h3⟩
theorem own_none {w w2 : World} {base g : Nat} {e : TypeId} {size : Nat} (h : Hid (w2.heap[g]? = some (.cells #[] e (0, 0)) ∧ g < w2.heap.size)) (hg : base ≤ g) : Hid (w2.ownsRow base e size (.slice (some ⟨g, 0, none⟩) 0 0) 0 []) :=
 Lib.hid ⟨by rw [List.length_nil, Nat.zero_mul], .inr ⟨g, 0, #[], rfl, hg, h.out.1, Nat.le_refl _, Nat.zero_le _, by simp, by simp⟩⟩
theorem raw_lit {w : World} {g : Nat} {ty : TypeId} {x y : Value} (h : Hid (w.heap[g]? = some (.cells #[x, y] ty (0, 0)) ∧ g < w.heap.size)) (hx : x.oneCell' = true) (hy : y.oneCell' = true) : Raw w (some ⟨g, 0, none⟩) 1 2 [x, y] := by
 refine ⟨rfl, (fun e => by cases e), fun ad e j u hj => ?_, fun u hu => ?_⟩
 ·obtain rfl := Option.some.inj e
  rw [Addr.add_lit, Nat.zero_add, blk_cell h.out.1]
  match j, hj with
  | 0, hj => exact hj
  | 1, hj => exact hj
 ·simp only [List.mem_cons, List.not_mem_nil, or_false] at hu
  rcases hu with rfl | rfl
  ·exact hx
  ·exact hy
theorem cells_grown {w w1 W : World} {row : Option Nat} (hg : w.grownBy w1 row) (hb : ∀ k, row = some k → W.heap.size ≤ k) (hbel : Below W.heap.size W w) : ∀ {l : List (Addr × Value)}, Cells l W → Cells l w → Cells l w1
 | [], _, _ => trivial
 | (a, v) :: l, hW, h => by
  have hlt := World.block_lt_of_cell? W _ hW.1
  refine ⟨?_, cells_grown hg hb hbel hW.2 h.2⟩
  have hbl : w1.heap[a.block]? = w.heap[a.block]? := hg.block a.block (Nat.lt_of_lt_of_le hlt hbel.size) (fun e => by have := hb _ e.symm; omega)
  rw [World.cell?_of_block hbl]; exact h.1
theorem i64_at {w : World} {A : Option Addr} {l : List Int} (h : (Kd.int .i64).C w A l.length l) {i : Nat} (hi : i < l.length) : ∃ ad, A = some ad ∧ w.cell? (ad.add i) = some (.int .i64 l[i]) := by
 obtain ⟨ad, c, e, _, hK, hc0⟩ := Kd.C_get h (0 : Int) i (by omega) (by omega)
 obtain rfl : c = [.int .i64 (l.getD (i : Int).toNat 0)] := hK
 have := hc0 0 _ rfl
 rw [Int.toNat_natCast, show (Kd.int .i64).sz = 1 from rfl, Nat.mul_one, Nat.add_zero] at this
 exact ⟨ad, e, by rw [this]; simp [List.getElem?_eq_getElem hi]⟩
end Go.Proofs.Ytmcfcmijopbinaa.Ln
end

section
/- Plain: within a small box the search knows. -/
namespace Go.Proofs.Ytmcfcmijopbinaa.Lin
open Go.RowKit Go.Proofs.Ytmcfcmijopbinaa.Given Go.Proofs.Ytmcfcmijopbinaa.Num Go.Proofs.Ytmcfcmijopbinaa.Sim
set_option linter.unusedVariables false
def upd' (f : Nat → Int) (i : Nat) (c : Int) : Nat → Int := fun k => if k = i then c else f k
def vol (lo hi : Nat → Int) : Nat → Int
 | 0 => 1
 | n + 1 => vol lo hi n * (hi n - lo n + 1)
def tot (lo hi : Nat → Int) : Nat → Int
 | 0 => 0
 | n + 1 => tot lo hi n + (hi n - lo n)
theorem upd_at (f : Nat → Int) (i : Nat) (c : Int) : upd' f i c i = c := if_pos rfl
theorem upd_ne {f : Nat → Int} {i k : Nat} {c : Int} (h : k ≠ i) : upd' f i c k = f k := if_neg h
theorem vol_hi (lo hi : Nat → Int) (i : Nat) (c : Int) : ∀ n, n ≤ i → vol lo (upd' hi i c) n = vol lo hi n
 | 0, _ => rfl
 | n + 1, h => by rw [vol, vol, vol_hi lo hi i c n (by omega), upd_ne (by omega)]
theorem vol_lo (lo hi : Nat → Int) (i : Nat) (c : Int) : ∀ n, n ≤ i → vol (upd' lo i c) hi n = vol lo hi n
 | 0, _ => rfl
 | n + 1, h => by rw [vol, vol, vol_lo lo hi i c n (by omega), upd_ne (by omega)]
theorem vol_split (lo hi : Nat → Int) (i : Nat) (c : Int) : ∀ n, i < n → vol lo (upd' hi i c) n + vol (upd' lo i (c + 1)) hi n = vol lo hi n
 | 0, h => absurd h (Nat.not_lt_zero _)
 | n + 1, h => by
  by_cases e : i = n
  ·subst e
   rw [vol, vol, vol, vol_hi lo hi i c i (Nat.le_refl _), vol_lo lo hi i (c + 1) i (Nat.le_refl _), upd_at, upd_at, ← Int.mul_add]
   congr 1; omega
  ·rw [vol, vol, vol, upd_ne (fun h => e h.symm), upd_ne (fun h => e h.symm), ← Int.add_mul, vol_split lo hi i c n (by omega)]
theorem vol_pos {lo hi : Nat → Int} : ∀ {n : Nat}, (∀ k, k < n → lo k ≤ hi k) → 1 ≤ vol lo hi n
 | 0, _ => Int.le_refl _
 | n + 1, h => by
  have h1 := vol_pos (lo := lo) (hi := hi) (n := n) fun k hk => h k (by omega)
  have h2 := h n (by omega)
  rw [vol]
  have : 1 * 1 ≤ vol lo hi n * (hi n - lo n + 1) := Int.mul_le_mul h1 (by omega) (by decide) (by omega)
  omega
theorem tot_hi (lo hi : Nat → Int) (i : Nat) (c : Int) : ∀ n, tot lo (upd' hi i c) n = tot lo hi n + if i < n then c - hi i else 0
 | 0 => by rw [tot, tot, if_neg (Nat.not_lt_zero _)]; rfl
 | n + 1 => by
  rw [tot, tot, tot_hi lo hi i c n]
  by_cases e : n = i
  ·subst e; rw [upd_at, if_neg (Nat.lt_irrefl _), if_pos (Nat.lt_succ_self _)]; omega
  ·rw [upd_ne e]
   by_cases h : i < n
   ·rw [if_pos h, if_pos (by omega)]; omega
   ·rw [if_neg h, if_neg (by omega)]; omega
theorem tot_lo (lo hi : Nat → Int) (i : Nat) (c : Int) : ∀ n, tot (upd' lo i c) hi n = tot lo hi n - if i < n then c - lo i else 0
 | 0 => by rw [tot, tot, if_neg (Nat.not_lt_zero _)]; rfl
 | n + 1 => by
  rw [tot, tot, tot_lo lo hi i c n]
  by_cases e : n = i
  ·subst e; rw [upd_at, if_neg (Nat.lt_irrefl _), if_pos (Nat.lt_succ_self _)]; omega
  ·rw [upd_ne e]
   by_cases h : i < n
   ·rw [if_pos h, if_pos (by omega)]; omega
   ·rw [if_neg h, if_neg (by omega)]; omega
theorem tot_nonneg {lo hi : Nat → Int} : ∀ {n : Nat}, (∀ k, k < n → lo k ≤ hi k) → 0 ≤ tot lo hi n
 | 0, _ => Int.le_refl _
 | n + 1, h => by
  have h1 := tot_nonneg (lo := lo) (hi := hi) (n := n) fun k hk => h k (by omega)
  have h2 := h n (by omega)
  rw [tot]; omega
structure Boxed (rows : List RowZ) (vars : Nat) (lo hi : Nat → Int) : Prop where
 len : ∀ r, r ∈ rows → r.1.length = vars
 c9 : ∀ r, r ∈ rows → ∀ c, c ∈ r.1 → c.natAbs ≤ 9
 k9 : ∀ r, r ∈ rows → r.2.natAbs ≤ 9
 few : (rows.length : Int) + tot lo hi vars ≤ 27
 lo9 : ∀ k, k < vars → -9 ≤ lo k ∧ lo k ≤ hi k ∧ hi k ≤ 9
 keep : ∀ x : Nat → Rat, Pt rows vars x → ∀ k, k < vars → (lo k : Rat) ≤ x k ∧ x k ≤ (hi k : Rat)
theorem Boxed.small {rows : List RowZ} {vars : Nat} {lo hi : Nat → Int} (h : Boxed rows vars lo hi) (h3 : vars ≤ 3) : SmallZ rows vars := by
 have := tot_nonneg (lo := lo) (hi := hi) (n := vars) fun k hk => (h.lo9 k hk).2.1
 have := h.few
 exact ⟨h3, h.len, by omega, h.c9, h.k9⟩
theorem bnd_len (vars i : Nat) (s k : Int) : (bnd vars i s k).1.length = vars := by unfold bnd; simp
theorem bnd_c9 {vars i : Nat} {s k : Int} (hs : s.natAbs ≤ 1) : ∀ c, c ∈ (bnd vars i s k).1 → c.natAbs ≤ 9 := by
 intro c hc
 unfold bnd at hc
 dsimp only at hc
 rcases List.mem_or_eq_of_mem_set hc with h | h
 ·rw [List.eq_of_mem_replicate h]; decide
 ·rw [h]; omega
theorem Boxed.left {rows : List RowZ} {vars : Nat} {lo hi : Nat → Int} (h : Boxed rows vars lo hi) {i : Nat} (hv : i < vars) {c : Int} (h1 : lo i ≤ c) (h2 : c < hi i) : Boxed (rows ++ [bnd vars i 1 (-c)]) vars lo (upd' hi i c) := by
 have h9 := h.lo9 i hv
 refine ⟨fun r hr => ?_, fun r hr => ?_, fun r hr => ?_, ?_, fun k hk => ?_, fun x hx k hk => ?_⟩
 ·rcases List.mem_append.1 hr with hr | hr
  ·exact h.len r hr
  ·rw [List.mem_singleton.1 hr]; exact bnd_len _ _ _ _
 ·rcases List.mem_append.1 hr with hr | hr
  ·exact h.c9 r hr
  ·rw [List.mem_singleton.1 hr]; exact bnd_c9 (by decide)
 ·rcases List.mem_append.1 hr with hr | hr
  ·exact h.k9 r hr
  ·rw [List.mem_singleton.1 hr]; show (-c).natAbs ≤ 9; omega
 ·rw [List.length_append, List.length_singleton, tot_hi, if_pos hv]
  have := h.few
  omega
 ·by_cases e : k = i
  ·subst e; rw [upd_at]; omega
  ·rw [upd_ne e]; exact h.lo9 k hk
 ·obtain ⟨p1, p2⟩ := pt_app.1 hx
  have hk2 := h.keep x p1 k hk
  by_cases e : k = i
  ·subst e
   rw [upd_at]
   refine ⟨hk2.1, ?_⟩
   have := (pt_bnd hv).1 p2
   rw [Rat.intCast_neg, show ((1 : Int) : Rat) = 1 from rfl] at this
   grind
  ·rw [upd_ne e]; exact hk2
theorem Boxed.right {rows : List RowZ} {vars : Nat} {lo hi : Nat → Int} (h : Boxed rows vars lo hi) {i : Nat} (hv : i < vars) {c : Int} (h1 : lo i < c) (h2 : c ≤ hi i) : Boxed (rows ++ [bnd vars i (-1) c]) vars (upd' lo i c) hi := by
 have h9 := h.lo9 i hv
 refine ⟨fun r hr => ?_, fun r hr => ?_, fun r hr => ?_, ?_, fun k hk => ?_, fun x hx k hk => ?_⟩
 ·rcases List.mem_append.1 hr with hr | hr
  ·exact h.len r hr
  ·rw [List.mem_singleton.1 hr]; exact bnd_len _ _ _ _
 ·rcases List.mem_append.1 hr with hr | hr
  ·exact h.c9 r hr
  ·rw [List.mem_singleton.1 hr]; exact bnd_c9 (by decide)
 ·rcases List.mem_append.1 hr with hr | hr
  ·exact h.k9 r hr
  ·rw [List.mem_singleton.1 hr]; show c.natAbs ≤ 9; omega
 ·rw [List.length_append, List.length_singleton, tot_lo, if_pos hv]
  have := h.few
  omega
 ·by_cases e : k = i
  ·subst e; rw [upd_at]; omega
  ·rw [upd_ne e]; exact h.lo9 k hk
 ·obtain ⟨p1, p2⟩ := pt_app.1 hx
  have hk2 := h.keep x p1 k hk
  by_cases e : k = i
  ·subst e
   rw [upd_at]
   refine ⟨?_, hk2.2⟩
   have := (pt_bnd hv).1 p2
   rw [show ((-1 : Int) : Rat) = -1 from rfl] at this
   grind
  ·rw [upd_ne e]; exact hk2
theorem cnt_ok {vars n : Nat} (h3 : vars ≤ 3) (hn : n ≤ 27) : cnt (vars + n) vars ≤ 10000 + 1 := by
 have hm := cnt_mono vars (show vars + n ≤ 30 by omega)
 have hw := cnt_whole
 match vars, h3 with
 | 0, _ => omega
 | 1, _ => omega
 | 2, _ => omega
 | 3, _ => omega
theorem knows {vars : Nat} (h3 : vars ≤ 3) : ∀ (d f : Nat) (rows : List RowZ) (lo hi : Nat → Int), f ≤ d → Boxed rows vars lo hi → 2 * vol lo hi vars - 1 ≤ (f : Int) →
  ((srch vars d f rows).1 = 1 ∨ (srch vars d f rows).1 = 2) ∧ (f : Int) - (2 * vol lo hi vars - 1) ≤ ((srch vars d f rows).2.1 : Int)
 | 0, f, rows, lo, hi, hfd, hb, hf => by
  have := vol_pos (lo := lo) (hi := hi) (n := vars) fun k hk => (hb.lo9 k hk).2.1
  omega
 | d + 1, 0, rows, lo, hi, hfd, hb, hf => by
  have := vol_pos (lo := lo) (hi := hi) (n := vars) fun k hk => (hb.lo9 k hk).2.1
  omega
 | d + 1, f + 1, rows, lo, hi, hfd, hb, hf => by
  have hv1 := vol_pos (lo := lo) (hi := hi) (n := vars) fun k hk => (hb.lo9 k hk).2.1
  have hlen : rows.length ≤ 27 := by
   have := tot_nonneg (lo := lo) (hi := hi) (n := vars) fun k hk => (hb.lo9 k hk).2.1
   have := hb.few
   omega
  have hsol := solve_small (hb.small h3) (fuel := 10000) (cnt_ok h3 hlen)
  have hst := srch_step (vars : Int) d f rows rfl
  rw [show ((10000 : Nat) : Int) = 10000 from rfl] at hsol
  rcases hsol with ⟨p, hs, hpl, -, hpt⟩ | ⟨w, hs, -, -⟩
  ·rw [hs] at hst
   rcases hst with ⟨h1, e⟩ | ⟨h1, hfr, e⟩ | ⟨i, a, b, h1, hfr, ha, hbb, e⟩
   ·exact (h1 rfl).elim
   ·rw [e]; exact ⟨.inl rfl, by dsimp only; omega⟩
   ·rw [Int.toNat_natCast] at ha hbb
    obtain ⟨hi', hden⟩ := frac_some hfr
    dsimp only at hi' hden ha hbb
    have hiv : i < vars := by omega
    have hkp := hb.keep _ hpt i hiv
    have hfl := floor_lt hden
    have hcf := ceil_floor hden
    have hfloor := Rat.floor_le (rdQ p i)
    have hlo : lo i ≤ (rdQ p i).floor := Rat.le_floor_iff.2 hkp.1
    have hhi : (rdQ p i).floor < hi i := by
     have : ((rdQ p i).floor : Rat) < (hi i : Rat) := by
      have := hkp.2
      grind
     exact Rat.intCast_lt_intCast.1 this
    rw [hcf] at hbb
    have bl := hb.left hiv hlo hhi
    have br := hb.right hiv (show lo i < (rdQ p i).floor + 1 by omega) (show (rdQ p i).floor + 1 ≤ hi i by omega)
    have hsp := vol_split lo hi i (rdQ p i).floor vars hiv
    have vl := vol_pos (lo := lo) (hi := upd' hi i (rdQ p i).floor) (n := vars) fun k hk => (bl.lo9 k hk).2.1
    have vr := vol_pos (lo := upd' lo i ((rdQ p i).floor + 1)) (hi := hi) (n := vars) fun k hk => (br.lo9 k hk).2.1
    have ia := knows h3 d f _ lo _ (by omega) bl (by omega)
    rw [ha] at ia
    have hfa := srch_fuel (vars : Int) d f (rows ++ [bnd vars i 1 (-(rdQ p i).floor)])
    rw [ha] at hfa
    rcases e with ⟨e1, e⟩ | ⟨e1, e2, e⟩ | ⟨e1, e2, e⟩
    ·rw [e]; exact ⟨.inl e1, by omega⟩
    ·have ib := knows h3 d a.2.1 _ _ hi (by omega) br (by omega)
     rw [hbb] at ib
     rw [e]; exact ⟨ib.1, by omega⟩
    ·have ib := knows h3 d a.2.1 _ _ hi (by omega) br (by omega)
     rw [hbb] at ib
     exact (e2 (by omega)).elim
  ·rw [hs] at hst
   rcases hst with ⟨h1, e⟩ | ⟨h1, -, e⟩ | ⟨i, a, b, h1, -⟩
   ·rw [e]; exact ⟨.inr rfl, by dsimp only; omega⟩
   ·cases h1
   ·cases h1
def wsolve (rows : List RowZ) (vars fuel : Int) (chk : List Int → Bool) : Int × List Int :=
 if (srch vars fuel.toNat fuel.toNat rows).1 = 1 then
  if chk (srch vars fuel.toNat fuel.toNat rows).2.2 = true then (1, (srch vars fuel.toNat fuel.toNat rows).2.2) else (0, [])
 else ((srch vars fuel.toNat fuel.toNat rows).1, [])
end Go.Proofs.Ytmcfcmijopbinaa.Lin
end
