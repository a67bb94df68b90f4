/- chkF is checkFarkas. -/
import Derived.Test.YtdkbnbebioflaaaLnJ
namespace Go.Proofs.Ytdkbnbebioflaaa.Ln
open Go.RowKit Go.Proofs.Ytdkbnbebioflaaa.Num Go.Proofs.Ytdkbnbebioflaaa.Given Go.Proofs.Ytdkbnbebioflaaa.Lin Go.Proofs.YtdkbnbebioflaaaW.PrintWords
set_option linter.unusedVariables false
set_option linter.unusedSimpArgs false

theorem colsP_false (l : List S38) (ws : List Int) : ∀ d i, colsP l ws d i false = some false
  | 0, i => by rw [colsP, if_neg (by decide)]
  | d + 1, i => by rw [colsP, if_neg (by decide), colsP_false l ws d (i + 1)]
theorem colsP_true (l : List S38) (ws : List Int) : ∀ d i, outB (colsP l ws d i true) =
    ((List.range' i d).all (fun k => weighF ws (l.map fun r => r.f0.getD k 0) 0 == some 0) && match weighF ws (l.map fun r => r.f1) 0 with | some s => decide (0 < s) | none => false)
  | 0, i => by
    rw [colsP, if_pos rfl, List.range'_zero, List.all_nil, Bool.true_and]
    cases weighF ws (l.map fun r => r.f1) 0 <;> rfl
  | d + 1, i => by
    rw [colsP, if_pos rfl, List.range'_succ, List.all_cons]
    cases h : weighF ws (l.map fun r => r.f0.getD i 0) 0 with
    | none => rfl
    | some s =>
      rw [Option.bind_some]
      cases hs : (s == 0) with
      | true =>
        have e : s = 0 := by simpa using hs
        subst e
        rw [colsP_true l ws d (i + 1)]
        simp
      | false =>
        rw [colsP_false]
        have e : s ≠ 0 := by simpa using hs
        simp [outB, e]
theorem chkF_is (l : List S38) (ws : List Int) : chkF l ws = checkFarkas (l.map toZ) ws := by
  unfold chkF checkFarkas
  by_cases h1 : l.length = ws.length
  · rw [if_pos h1, List.length_map, decide_eq_true h1, Bool.true_and]
    have e2 : (ws.all fun x => decide (0 ≤ x)) = !(ws.any fun x => decide (x < 0)) := by
      rw [List.all_eq_not_any_not]
      congr 1
      congr 1
      funext x
      by_cases h : x < 0
      · simp [h]
      · simp [h]; omega
    rw [e2]
    cases ws.any (fun x => decide (x < 0)) with
    | true => rw [if_pos rfl]; rfl
    | false =>
      rw [if_neg (by decide)]
      cases l with
      | nil => rfl
      | cons r l =>
        rw [if_neg (by simp)]
        have e3 : (((r :: l).map toZ).all fun q => decide (q.1.length = widthZ ((r :: l).map toZ))) = !((r :: l).any fun x => !((x.f0.length : Int) == (((r :: l).getD 0 z38).f0.length : Int))) := by
          show _ = !((r :: l).any fun x => !((x.f0.length : Int) == (r.f0.length : Int)))
          rw [List.all_map, List.all_eq_not_any_not]
          congr 1
          congr 1
          funext x
          show (!decide (x.f0.length = r.f0.length)) = _
          by_cases h : x.f0.length = r.f0.length
          · simp [h]
          · simp [h]; omega
        rw [e3]
        have e4 : decide ((r :: l).map toZ ≠ []) = true := by simp
        rw [e4]
        cases (r :: l).any (fun x => !((x.f0.length : Int) == (((r :: l).getD 0 z38).f0.length : Int))) with
        | true => rw [if_pos rfl]; rfl
        | false =>
          rw [if_neg (by decide)]
          show outB (colsP (r :: l) ws r.f0.length 0 true) = _
          rw [colsP_true, ← List.range_eq_range']
          unfold colZ kZ
          simp only [Bool.not_false, Bool.true_and, Bool.and_true, List.map_map]
          rfl
  · rw [if_neg h1, List.length_map, decide_eq_false h1]; rfl

end Go.Proofs.Ytdkbnbebioflaaa.Ln
