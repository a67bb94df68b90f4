/- Plain: weights that show it show it also twice as large, and with a row more of weight 0. -/
import Derived.Test.YtdkbnbebioflaaaLinC
namespace Go.Proofs.Ytdkbnbebioflaaa.Lin
open Go.RowKit Go.Proofs.Ytdkbnbebioflaaa.Given Go.Proofs.Ytdkbnbebioflaaa.Num Go.Proofs.Ytdkbnbebioflaaa.Sim
set_option linter.unusedVariables false
def dotZ : List Int → List Int → Int
 | w :: ws, c :: cs => w * c + dotZ ws cs
 | _, _ => 0
theorem dot_nil (cs : List Int) : dotZ [] cs = 0 := by cases cs <;> rfl
theorem dot_nil' (ws : List Int) : dotZ ws [] = 0 := by cases ws <;> rfl
theorem weigh_nil (cs : List Int) (s : Int) : weighF [] cs s = some s := by cases cs <;> rfl
theorem weigh_nil' (ws : List Int) (s : Int) : weighF ws [] s = some s := by cases ws <;> rfl
theorem weighF_dot : ∀ {ws cs : List Int} {s r : Int}, weighF ws cs s = some r → r = s + dotZ ws cs
 | w :: ws, c :: cs, s, r, h => by
  rw [weighF] at h
  obtain ⟨y, h1, h2⟩ := Option.bind_eq_some_iff.1 h
  obtain ⟨z, h3, h4⟩ := Option.bind_eq_some_iff.1 h2
  rw [weighF_dot h4, okI_some h3, okI_some h1, dotZ]
  omega
 | [], cs, s, r, h => by
  have : s = r := by cases cs <;> simpa [weighF] using h
  rw [dot_nil, ← this]; omega
 | w :: ws, [], s, r, h => by
  have : s = r := by simpa [weighF] using h
  rw [dot_nil', ← this]; omega
theorem mul_bound {w c : Int} {B C : Nat} (hw : w.natAbs ≤ B) (hc : c.natAbs ≤ C) : (w * c).natAbs ≤ B * C := by
 rw [Int.natAbs_mul]; exact Nat.mul_le_mul hw hc
theorem weighF_fits {B C : Nat} : ∀ {ws cs : List Int} {s : Int} {S : Nat}, (∀ w, w ∈ ws → w.natAbs ≤ B) → (∀ c, c ∈ cs → c.natAbs ≤ C) → s.natAbs ≤ S → S + ws.length * (B * C) < 9000000000000000000 → weighF ws cs s = some (s + dotZ ws cs)
 | w :: ws, c :: cs, s, S, hw, hc, hs, hB => by
  have h1 := mul_bound (hw w (List.mem_cons_self ..)) (hc c (List.mem_cons_self ..))
  rw [List.length_cons, Nat.add_mul, Nat.one_mul] at hB
  have hD : ∃ D, D = B * C := ⟨_, rfl⟩
  obtain ⟨D, hD⟩ := hD
  rw [← hD] at h1 hB
  have hE : ∃ E, E = ws.length * D := ⟨_, rfl⟩
  obtain ⟨E, hE⟩ := hE
  have hP : ∃ P, P = w * c := ⟨_, rfl⟩
  obtain ⟨P, hP⟩ := hP
  rw [weighF, dotZ, ← hP]
  rw [← hP] at h1
  rw [← hE] at hB
  have e1 : okI P = some P := if_pos (by unfold In64; omega)
  have e2 : okI (s + P) = some (s + P) := if_pos (by unfold In64; omega)
  rw [e1, Option.bind_some, e2, Option.bind_some, weighF_fits (S := S + D) (fun w hw' => hw w (List.mem_cons_of_mem _ hw')) (fun c hc' => hc c (List.mem_cons_of_mem _ hc')) (by omega) (by rw [← hD, ← hE]; omega)]
  congr 1; omega
 | [], cs, s, S, hw, hc, hs, hB => by
  rw [dot_nil, Int.add_zero, weigh_nil]
 | w :: ws, [], s, S, hw, hc, hs, hB => by
  rw [dot_nil', Int.add_zero, weigh_nil']
theorem dotZ_two : ∀ (ws cs : List Int), dotZ (ws.map (2 * ·)) cs = 2 * dotZ ws cs
 | w :: ws, c :: cs => by rw [List.map_cons, dotZ, dotZ, dotZ_two ws cs, Int.mul_add, Int.mul_assoc]
 | [], cs => by cases cs <;> rfl
 | w :: ws, [] => rfl
theorem weighF_app : ∀ {ws cs : List Int} {s r x : Int}, ws.length = cs.length → In64 s → weighF ws cs s = some r → weighF (ws ++ [0]) (cs ++ [x]) s = some r
 | w :: ws, c :: cs, s, r, x, hl, hs, h => by
  rw [weighF] at h
  obtain ⟨y, h1, h2⟩ := Option.bind_eq_some_iff.1 h
  obtain ⟨z, h3, h4⟩ := Option.bind_eq_some_iff.1 h2
  have hz : In64 z := by
   unfold okI at h3
   split at h3
   ·rename_i hz
    injection h3 with h3
    rw [← h3]; exact hz
   ·cases h3
  rw [List.cons_append, List.cons_append, weighF, h1, Option.bind_some, h3, Option.bind_some]
  exact weighF_app (by simpa using hl) hz h4
 | [], [], s, r, x, hl, hs, h => by
  have : s = r := by simpa [weighF] using h
  subst this
  have e1 : okI (0 * x) = some 0 := by rw [Int.zero_mul]; exact if_pos (by unfold In64; omega)
  have e2 : okI (s + 0) = some s := by rw [Int.add_zero]; exact if_pos hs
  rw [List.nil_append, List.nil_append, weighF, e1, Option.bind_some, e2, Option.bind_some, weigh_nil]
 | [], c :: cs, s, r, x, hl, hs, h => by cases hl
 | w :: ws, [], s, r, x, hl, hs, h => by cases hl
theorem farkas_iff (z : List RowZ) (w : List Int) : checkFarkas z w = true ↔ z.length = w.length ∧ (∀ x, x ∈ w → 0 ≤ x) ∧ z ≠ [] ∧ (∀ r, r ∈ z → r.1.length = widthZ z) ∧ (∀ k, k < widthZ z → weighF w (colZ z k) 0 = some 0) ∧ ∃ s, weighF w (kZ z) 0 = some s ∧ 0 < s := by
 unfold checkFarkas
 cases hq : weighF w (kZ z) 0 with
 | none => simp
 | some s =>
  simp only [Bool.and_eq_true, decide_eq_true_eq, List.all_eq_true, List.mem_range, beq_iff_eq, Option.some.injEq]
  constructor
  ·rintro ⟨⟨⟨⟨⟨a, b⟩, c⟩, d⟩, e⟩, f⟩; exact ⟨a, b, c, d, e, s, rfl, f⟩
  ·rintro ⟨a, b, c, d, e, s', rfl, f⟩; exact ⟨⟨⟨⟨⟨a, b⟩, c⟩, d⟩, e⟩, f⟩
theorem farkas_two {z : List RowZ} {w : List Int} (h : checkFarkas z w = true) (hw : ∀ x, x ∈ w → x ≤ 255) (hl : w.length ≤ 30) (hc : ∀ r, r ∈ z → r.2.natAbs ≤ 1099511627776 ∧ ∀ c, c ∈ r.1 → c.natAbs ≤ 1099511627776) : checkFarkas z (w.map (2 * ·)) = true := by
 obtain ⟨h1, h2, h3, h4, h5, s, h6, h7⟩ := (farkas_iff z w).1 h
 have hB : ∀ x, x ∈ w.map (2 * ·) → x.natAbs ≤ 510 := by
  intro x hx
  obtain ⟨y, hy, rfl⟩ := List.mem_map.1 hx
  have := hw y hy
  have := h2 y hy
  omega
 have hlen : 0 + (w.map (2 * ·)).length * (510 * 1099511627776) < 9000000000000000000 := by rw [List.length_map]; omega
 refine (farkas_iff z _).2 ⟨by rw [h1, List.length_map], ?_, h3, h4, fun k hk => ?_, 2 * s, ?_, by omega⟩
 ·intro x hx
  obtain ⟨y, hy, rfl⟩ := List.mem_map.1 hx
  have := h2 y hy
  omega
 ·have hcol : ∀ c, c ∈ colZ z k → c.natAbs ≤ 1099511627776 := by
   intro c hc'
   obtain ⟨r, hr, rfl⟩ := List.mem_map.1 hc'
   rw [List.getD_eq_getElem?_getD]
   cases hq : r.1[k]? with
   | none => simp
   | some y => exact (hc r hr).2 y (List.mem_of_getElem? hq)
  rw [weighF_fits (s := 0) (S := 0) hB hcol (Nat.le_refl 0) hlen, dotZ_two]
  have := weighF_dot (h5 k hk)
  rw [show dotZ w (colZ z k) = 0 by omega]; rfl
 ·have hk : ∀ c, c ∈ kZ z → c.natAbs ≤ 1099511627776 := by
   intro c hc'
   obtain ⟨r, hr, rfl⟩ := List.mem_map.1 hc'
   exact (hc r hr).1
  rw [weighF_fits (s := 0) (S := 0) hB hk (Nat.le_refl 0) hlen, dotZ_two]
  have := weighF_dot h6
  rw [show dotZ w (kZ z) = s by omega]
  congr 1; omega
theorem farkas_more {r0 : RowZ} {z : List RowZ} {w : List Int} {k : Int} (h : checkFarkas (r0 :: z) w = true) : checkFarkas ((r0 :: z) ++ [(r0.1, k)]) (w ++ [0]) = true := by
 obtain ⟨h1, h2, h3, h4, h5, s, h6, h7⟩ := (farkas_iff _ w).1 h
 have hW : widthZ ((r0 :: z) ++ [(r0.1, k)]) = r0.1.length := rfl
 have hW0 : widthZ (r0 :: z) = r0.1.length := rfl
 have i0 : In64 0 := by unfold In64; omega
 refine (farkas_iff _ _).2 ⟨by rw [List.length_append, List.length_append, h1]; rfl, ?_, by simp, ?_, fun j hj => ?_, s, ?_, h7⟩
 ·intro x hx
  rcases List.mem_append.1 hx with hx | hx
  ·exact h2 x hx
  ·rw [List.mem_singleton.1 hx]; exact Int.le_refl _
 ·intro r hr
  rw [hW]
  rcases List.mem_append.1 hr with hr | hr
  ·rw [h4 r hr, hW0]
  ·rw [List.mem_singleton.1 hr]
 ·rw [hW] at hj
  have e : colZ ((r0 :: z) ++ [(r0.1, k)]) j = colZ (r0 :: z) j ++ [r0.1.getD j 0] := by unfold colZ; rw [List.map_append]; rfl
  rw [e]
  exact weighF_app (by unfold colZ; rw [List.length_map, ← h1]) i0 (h5 j (by rw [hW0]; exact hj))
 ·have e : kZ ((r0 :: z) ++ [(r0.1, k)]) = kZ (r0 :: z) ++ [k] := by unfold kZ; rw [List.map_append]; rfl
  rw [e]
  exact weighF_app (by unfold kZ; rw [List.length_map, ← h1]) i0 h6
end Go.Proofs.Ytdkbnbebioflaaa.Lin
