/- ashlarlaw12.small and box: what they answer, plain. -/
import Derived.Test.YtmcfcmijopbinaaPWholeMorex1
namespace Go.Proofs.Ytmcfcmijopbinaa.Ln
open Go.RowKit Go.Proofs.Ytmcfcmijopbinaa.PWholeMore Go.Proofs.Ytmcfcmijopbinaa.Lin Go.Proofs.YtmcfcmijopbinaaW.PrintWords Go.Proofs.YtmcfcmijopbinaaW.PrintLast Go.Proofs.Ytmcfcmijopbinaa.Given Go.Proofs.Ytmcfcmijopbinaa.Num
set_option linter.unusedVariables false
set_option linter.unusedSimpArgs false
def smallR (n : Nat) (r : S25) : S25 := ⟨(List.range n).map (fun k => (r.f0.getD k 0).tmod 10), r.f1.tmod 10⟩
def smallL (n : Nat) (l : List S25) : List S25 := (l.take 3).map (smallR n)
theorem rd_nat (l : List Int) (i : Nat) : rd l (i : Int) = l.getD i 0 := by unfold rd; rw [Int.toNat_natCast]
theorem rdT_nat {l : List S25} {i : Nat} (h : i < l.length) : PWholeMore.rd_T25 l (i : Int) = l[i] := by unfold PWholeMore.rd_T25; rw [Int.toNat_natCast]; simp [List.getD_eq_getElem?_getD, h]
section
variable {l : List S25} {n : Nat}
theorem small_in (hn : n ≤ 3) {i : Nat} (hi : i < l.length) (x5 : List S25) (K : Int) (k : Nat) : ∀ d j, j + d = n →
  ashlarlaw12_small.l1 (k + d) l (n : Int) x5 (i : Int) (j : Int) ((List.range j).map (fun k => (l[i].f0.getD k 0).tmod 10)) K = ashlarlaw12_small.l1 k l (n : Int) x5 (i : Int) (n : Int) ((List.range n).map (fun k => (l[i].f0.getD k 0).tmod 10)) K
 | 0, j, h => by
  obtain rfl : j = n := by omega
  rfl
 | d + 1, j, h => by
  rw [← small_in hn hi x5 K k d (j + 1) (by omega)]
  have w2 : wrap64 ((j : Int) + 1) = ((j + 1 : Nat) : Int) := by rw [wrap64_in ⟨by omega, by omega⟩]; rfl
  have hs : (List.range (j + 1)).map (fun k => (l[i].f0.getD k 0).tmod 10) = (List.range j).map (fun k => (l[i].f0.getD k 0).tmod 10) ++ [(l[i].f0.getD j 0).tmod 10] := by rw [List.range_succ, List.map_append]; rfl
  have hl : ((List.range j).map (fun k => (l[i].f0.getD k 0).tmod 10)).length < 17592186044416 := by rw [List.length_map, List.length_range]; omega
  show ashlarlaw12_small.l1 ((k + d) + 1) l (n : Int) x5 (i : Int) (j : Int) _ K = _
  rw [ashlarlaw12_small.l1, if_pos (by omega), if_pos (by omega), if_pos (by omega), rdT_nat hi, w2, hs]
  by_cases hj : j < l[i].f0.length
  ·rw [if_pos (by omega), if_pos (by omega), if_pos hl, rd_nat]
  ·rw [if_neg (by omega), if_pos hl]
   have e : l[i].f0.getD j 0 = 0 := by rw [List.getD_eq_getElem?_getD, List.getElem?_eq_none (by omega)]; rfl
   rw [e]
   rfl
theorem small_out (hn : n ≤ 3) (k : Nat) : ∀ d i, i + d = min l.length 3 →
  ashlarlaw12_small.l0 (k + (n + 3) * d) l (n : Int) ((l.take i).map (smallR n)) (i : Int) = ashlarlaw12_small.l0 k l (n : Int) ((l.take (min l.length 3)).map (smallR n)) ((min l.length 3 : Nat) : Int)
 | 0, i, h => by
  obtain rfl : i = min l.length 3 := by omega
  rfl
 | d + 1, i, h => by
  rw [← small_out hn k d (i + 1) (by omega)]
  have hi : i < l.length := by omega
  have w2 : wrap64 ((i : Int) + 1) = ((i + 1 : Nat) : Int) := by rw [wrap64_in ⟨by omega, by omega⟩]; rfl
  have hs : (l.take (i + 1)).map (smallR n) = (l.take i).map (smallR n) ++ [smallR n l[i]] := by rw [List.take_add_one, List.getElem?_eq_getElem hi, List.map_append]; rfl
  have hl : ((l.take i).map (smallR n)).length < 4398046511104 := by rw [List.length_map, List.length_take]; omega
  have e : k + (n + 3) * (d + 1) = ((((k + (n + 3) * d) + 1) + n) + 1) + 1 := by rw [Nat.mul_add, Nat.mul_one]; omega
  rw [e, ashlarlaw12_small.l0, if_pos (by omega), decide_eq_true (show (i : Int) < 3 by omega), ashlarlaw12_small.j1, if_pos rfl, if_pos (by omega), if_pos (by omega), rdT_nat hi]
  have h1 := small_in (l := l) hn hi ((l.take i).map (smallR n)) (l[i].f1.tmod 10) ((k + (n + 3) * d) + 1) n 0 (by omega)
  have h2 : ashlarlaw12_small.l1 ((k + (n + 3) * d) + 1 + n) l (n : Int) ((l.take i).map (smallR n)) (i : Int) 0 [] (l[i].f1.tmod 10) = _ := h1
  rw [h2, ashlarlaw12_small.l1, if_neg (by omega), if_pos hl, w2, hs]
  rfl
theorem small_is (hn : n ≤ 3) : ∃ k, ashlarlaw12_small.f k l (n : Int) = some (smallL n l) := by
 refine ⟨2 + (n + 3) * min l.length 3, ?_⟩
 have h := small_out (l := l) hn 2 (min l.length 3) 0 (by omega)
 have h0 : ashlarlaw12_small.f (2 + (n + 3) * min l.length 3) l (n : Int) = _ := h
 have e : l.take (min l.length 3) = l.take 3 := by
  rcases Nat.le_total l.length 3 with h3 | h3
  ·rw [Nat.min_eq_left h3, List.take_of_length_le (Nat.le_refl _), List.take_of_length_le h3]
  ·rw [Nat.min_eq_right h3]
 rw [h0, e, ashlarlaw12_small.l0]
 by_cases h3 : l.length ≤ 3
 ·rw [if_neg (by omega), ashlarlaw12_small.j1, if_neg (by decide)]; rfl
 ·rw [if_pos (by omega), decide_eq_false (by omega), ashlarlaw12_small.j1, if_neg (by decide)]; rfl
end
theorem small_ok {n : Nat} {l : List S25} : (smallL n l).length = min 3 l.length ∧ ∀ r, r ∈ smallL n l → r.f0.length = n ∧ (∀ x, x ∈ r.f0 → x.natAbs ≤ 9) ∧ r.f1.natAbs ≤ 9 := by
 have ht : ∀ a : Int, (a.tmod 10).natAbs ≤ 9 := fun a => by
  have h1 := Int.tmod_lt_of_pos a (show (0 : Int) < 10 by decide)
  have h2 := Int.lt_tmod_of_pos a (show (0 : Int) < 10 by decide)
  omega
 refine ⟨by unfold smallL; rw [List.length_map, List.length_take], fun r hr => ?_⟩
 obtain ⟨y, hy, rfl⟩ := List.mem_map.1 hr
 refine ⟨by simp [smallR], fun x hx => ?_, ht _⟩
 obtain ⟨k, hk, rfl⟩ := List.mem_map.1 hx
 exact ht _
theorem box_is : ∀ {n : Nat}, n ≤ 3 → ∃ bx, ashlarlaw12_box.f 20 (n : Int) 3 = some bx ∧ bx.map toZ = boxZ n ∧ bx.length = 2 * n ∧ ∀ r, r ∈ bx → RowIn r
 | 0, _ => ⟨[], by kernel_rfl, rfl, rfl, by decide⟩
 | 1, _ => ⟨[⟨[1], -3⟩, ⟨[-1], -3⟩], by kernel_rfl, rfl, rfl, by decide⟩
 | 2, _ => ⟨[⟨[1, 0], -3⟩, ⟨[-1, 0], -3⟩, ⟨[0, 1], -3⟩, ⟨[0, -1], -3⟩], by kernel_rfl, rfl, rfl, by decide⟩
 | 3, _ => ⟨[⟨[1, 0, 0], -3⟩, ⟨[-1, 0, 0], -3⟩, ⟨[0, 1, 0], -3⟩, ⟨[0, -1, 0], -3⟩, ⟨[0, 0, 1], -3⟩, ⟨[0, 0, -1], -3⟩], by kernel_rfl, rfl, rfl, by decide⟩
 | n + 4, h => by omega
end Go.Proofs.Ytmcfcmijopbinaa.Ln
