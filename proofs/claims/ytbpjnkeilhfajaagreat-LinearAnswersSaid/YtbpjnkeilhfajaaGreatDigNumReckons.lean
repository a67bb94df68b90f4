/- Plain law: what the document's digits reckon (law NumReckons). -/
import Derived.Test.YtbpjnkeilhfajaaGreatDigA
import Derived.Test.YtbpjnkeilhfajaaGreatNumT
namespace Go.Proofs
theorem Z110 {p : Prop} (h : p := by clear hv; omega) : p := h
theorem Z111 {p : Prop} (h : p := by clear hv hVV hbt hV; omega) : p := h
end Go.Proofs
namespace Go.Proofs.YtbpjnkeilhfajaaGreat.DigNumReckons
set_option linter.unusedVariables false
set_option linter.unusedSimpArgs false
open Go.RowKit Go.Proofs.YtbpjnkeilhfajaaGreat.Given Go.Proofs.YtbpjnkeilhfajaaGreat.PNumReckons Go.Proofs.YtbpjnkeilhfajaaGreatW.PrintWords Go.Proofs.YtbpjnkeilhfajaaGreatW.PrintMore Go.Proofs.YtbpjnkeilhfajaaGreat.Ref Go.Proofs.YtbpjnkeilhfajaaGreat.Dig Go.Proofs.YtbpjnkeilhfajaaGreat.Num
theorem cut_f (d : Bool) {l : List Int} (h : Dig l) (hl : l.length ≤ 1000000) {n : Nat} (hv : val l = n) : ashlarref01_cut.f d l = some (d && decide (n ≠ 0), dg n) := by
 unfold ashlarref01_cut.f
 rw [if_pos hl, cut_dg' h hv]
 have : (0 < (dg n).length) = (n ≠ 0) := by
  have h0 := dg_len0 (n := n)
  apply propext; omega
 simp only [this]
theorem at_f {l : List Int} {i : Nat} : ashlarref01_at.f l (i : Int) = some (l.getD i 0) := by
 unfold ashlarref01_at.f rd
 by_cases h : (i : Int) < l.length
 ·rw [if_pos h, if_pos (by omega)]; simp
 ·rw [if_neg h]; simp [List.getElem?_eq_none (show l.length ≤ i by omega)]
theorem size_l0 {a b : List Int} (ha : Dig a) (hb : Dig b) : ∀ i : Nat, i ≤ 1000000 → val (a.drop i) = val (b.drop i) → Frm (fun k => ashlarref01_size.l0 k a b ((i : Int) - 1)) (cmpI (val a - val b))
 | 0, _, h => by
  apply Frm.succ
  refine Frm.const fun k => ?_
  simp only [ashlarref01_size.l0]
  rw [if_neg (by omega)]
  have : val a = val b := by simpa using h
  simp [this, cmpI]
 | i + 1, hi, h => by
  have ih := size_l0 ha hb i (by omega)
  have e1 := val_drop a i
  have e2 := val_drop b i
  have l1 := lt_of_drop ha hb i
  have l2 := lt_of_drop hb ha i
  have ei : ((i + 1 : Nat) : Int) - 1 = (i : Int) := by omega
  have ew : wrap64 ((i : Int) - 1) = (i : Int) - 1 := wrap64_in (by omega) (by omega)
  apply Frm.succ
  simp only [ashlarref01_size.l0, ei, ew, at_f, Option.bind_some]
  by_cases c1 : a.getD i 0 < b.getD i 0
  ·refine Frm.const fun k => ?_
   rw [if_pos (by omega), if_pos c1]
   have := l1 (by omega)
   unfold cmpI; rw [if_pos (by omega)]
  ·by_cases c2 : a.getD i 0 > b.getD i 0
   ·refine Frm.const fun k => ?_
    rw [if_pos (by omega), if_neg c1, if_pos c2]
    have := l2 (by omega)
    unfold cmpI; rw [if_neg (by omega), if_neg (by omega)]
   ·refine (ih (by omega)).congr fun k => ?_
    rw [if_pos (by omega), if_neg c1, if_neg c2]
theorem size_ev {a b : List Int} (ha : Dig a) (hb : Dig b) (la : a.length ≤ 1000000) (lb : b.length ≤ 1000000) : Frm (fun k => ashlarref01_size.f k a b) (cmpI (val a - val b)) := by
 unfold ashlarref01_size.f mx
 by_cases h : (a.length : Int) < b.length
 ·have := size_l0 ha hb b.length lb (by rw [val_beyond (Nat.le_refl _), val_beyond (by omega)])
  refine this.congr fun k => ?_
  rw [if_pos h, wrap64_in (by omega) (by omega)]
 ·have := size_l0 ha hb a.length la (by rw [val_beyond (Nat.le_refl _), val_beyond (by omega)])
  refine this.congr fun k => ?_
  rw [if_neg h, wrap64_in (by omega) (by omega)]
theorem apart_l0 {a b : List Int} (ha : Dig a) (hb : Dig b) (la : a.length ≤ 1000000) (hab : val b ≤ val a) : ∀ (n i : Nat) (out : List Int) (c : Int), i + n = a.length → out.length = i → Dig out → (c = 0 ∨ c = 1) → val out + 10 ^ i * (val (a.drop i) - val (b.drop i) - c) = val a - val b →
  ∃ r, Frm (fun k => ashlarref01_apart.l0 k a b out c (i : Int)) r ∧ Dig r ∧ val r = val a - val b ∧ r.length = a.length
 | 0, i, out, c, hi, ho, hd, hc, hv => by
  refine ⟨out, ?_, hd, ?_, by omega⟩
  ·apply Frm.succ
   refine Frm.const fun k => ?_
   simp only [ashlarref01_apart.l0]
   rw [if_neg (by omega)]
  ·rw [val_beyond (show a.length ≤ i by omega)] at hv
   have h1 := val_lt hd
   have h2 := val_nonneg hd
   have h3 := val_nonneg (dig_drop hb i)
   rw [ho] at h1
   have hp : (0 : Int) < 10 ^ i := Int.pow_pos (by omega)
   by_cases hz : val (b.drop i) + c = 0
   ·have : (0 : Int) - val (b.drop i) - c = 0 := by omega
    rw [this] at hv; omega
   ·have : (10 : Int) ^ i * (0 - val (b.drop i) - c) ≤ 10 ^ i * (-1) := Int.mul_le_mul_of_nonneg_left (by omega) (by omega)
    omega
 | n + 1, i, out, c, hi, ho, hd, hc, hv => by
  have e1 := val_drop a i
  have e2 := val_drop b i
  have d1 := getD_dig ha i
  have d2 := getD_dig hb i
  have er : rd a (i : Int) = a.getD i 0 := by simp [rd]
  have ew : wrap64 ((i : Int) + 1) = ((i + 1 : Nat) : Int) := wrap64_in (by omega) (by omega)
  have w1 : wrap64 (a.getD i 0 - b.getD i 0) = a.getD i 0 - b.getD i 0 := wrap64_in (by omega) (by omega)
  have w2 : wrap64 (a.getD i 0 - b.getD i 0 - c) = a.getD i 0 - b.getD i 0 - c := wrap64_in (by omega) (by omega)
  have w3 : wrap64 (a.getD i 0 - b.getD i 0 - c + 10) = a.getD i 0 - b.getD i 0 - c + 10 := wrap64_in (by omega) (by omega)
  have f1 : (i : Int) < (a.length : Int) := by clear hv w1 w2 w3 ew; omega
  have f2 : 0 ≤ (i : Int) := Int.natCast_nonneg _
  have f3 : out.length < 17592186044416 := by rw [ho]; exact Nat.lt_of_le_of_lt (by omega) (Nat.lt_of_le_of_lt la (by decide))
  by_cases hlt : a.getD i 0 - b.getD i 0 - c < 0
  ·obtain ⟨r, h1, h2⟩ := apart_l0 ha hb la hab n (i + 1) (out ++ [a.getD i 0 - b.getD i 0 - c + 10]) 1 (by omega) (by simp [ho]) (dig_append.2 ⟨hd, dig_cons.2 ⟨by omega, dig_nil⟩⟩) (.inr rfl) (by
    rw [val_append, ho, ← hv, e1, e2, Int.pow_succ]; simp only [val]; grind)
   refine ⟨r, ?_, h2⟩
   apply Frm.succ
   refine h1.congr fun k => ?_
   simp only [ashlarref01_apart.l0, er, at_f, Option.bind_some, w1, w2, w3, ew]
   rw [if_pos f1, if_pos f2, if_pos hlt, if_pos f3]
  ·obtain ⟨r, h1, h2⟩ := apart_l0 ha hb la hab n (i + 1) (out ++ [a.getD i 0 - b.getD i 0 - c]) 0 (by omega) (by simp [ho]) (dig_append.2 ⟨hd, dig_cons.2 ⟨by omega, dig_nil⟩⟩) (.inl rfl) (by
    rw [val_append, ho, ← hv, e1, e2, Int.pow_succ]; simp only [val]; grind)
   refine ⟨r, ?_, h2⟩
   apply Frm.succ
   refine h1.congr fun k => ?_
   simp only [ashlarref01_apart.l0, er, at_f, Option.bind_some, w1, w2, w3, ew]
   rw [if_pos f1, if_pos f2, if_neg hlt, if_pos f3]
theorem apart_ev {a b : List Int} (ha : Dig a) (hb : Dig b) (la : a.length ≤ 1000000) (hab : val b ≤ val a) :
  ∃ r, Frm (fun k => ashlarref01_apart.f k a b) r ∧ Dig r ∧ val r = val a - val b ∧ r.length = a.length := by
 unfold ashlarref01_apart.f
 exact apart_l0 ha hb la hab a.length 0 [] 0 (by omega) rfl dig_nil (.inl rfl) (by simp [val])
theorem ge_cmp {x : Int} : cmpI x ≥ 0 ↔ 0 ≤ x := by
 unfold cmpI; by_cases h : x < 0
 ·rw [if_pos h]; omega
 ·by_cases h2 : x = 0
  ·rw [if_neg h, if_pos h2]; omega
  ·rw [if_neg h, if_neg h2]; omega
theorem cmp_size {m n : Nat} (hm : (dg m).length ≤ 1000000) (hn : (dg n).length ≤ 1000000) : Frm (fun k => ashlarref01_size.f k (dg m) (dg n)) (cmpI ((m : Int) - n)) := by
 have := size_ev (dg_dig m) (dg_dig n) hm hn
 rwa [dg_val, dg_val] at this
theorem val_drop_le {l : List Int} (h : Dig l) : ∀ i : Nat, val (l.drop i) ≤ val l
 | 0 => by simp
 | i + 1 => by
  have := val_drop_le h i
  have e := val_drop l i
  have := getD_dig h i
  have := val_nonneg (dig_drop h (i + 1))
  omega
theorem tdiv10 {d : Int} (h : 0 ≤ d) (h2 : d ≤ 9) : Int.tdiv (-9223372036854775808 + d) 10 = -((9223372036854775808 - d) / 10) := by
 have : -9223372036854775808 + d = -(9223372036854775808 - d) := by omega
 rw [this, Int.neg_tdiv, Int.tdiv_eq_ediv_of_nonneg (by omega)]
theorem int_l0 {l : List Int} (hl : Dig l) (d : Bool) (ll : l.length ≤ 1000) : ∀ i : Nat, i ≤ l.length → val (l.drop i) ≤ 9223372036854775808 → Frm (fun k => ashlarref01_Int.l0 k (-(val (l.drop i))) ((i : Int) - 1) d l) (fitp (if d = true then -(val l) else val l))
 | 0, _, h => by
  have h0 := val_nonneg hl
  rw [List.drop_zero] at h ⊢
  apply Frm.succ
  refine Frm.const fun k => ?_
  simp only [ashlarref01_Int.l0]
  rw [if_neg (by omega)]
  cases d
  ·simp only [Bool.false_eq_true, if_false]
   unfold fitp
   by_cases c : val l = 9223372036854775808
   ·rw [if_pos (by omega), if_neg (by omega)]
   ·rw [if_neg (by omega), if_pos (by omega), wrap64_in (by omega) (by omega), Int.neg_neg]
  ·simp only [if_true]
   unfold fitp
   rw [if_pos (by omega)]
 | i + 1, hi, h => by
  have h0 := val_nonneg (dig_drop hl (i + 1))
  have e := val_drop l i
  have dd := getD_dig hl i
  have le := val_drop_le hl i
  have ei : ((i + 1 : Nat) : Int) - 1 = (i : Int) := by omega
  have er : rd l (i : Int) = l.getD i 0 := by simp [rd]
  have ew : wrap64 ((i : Int) - 1) = (i : Int) - 1 := wrap64_in (by omega) (by omega)
  have w1 : wrap64 (-9223372036854775808 + l.getD i 0) = -9223372036854775808 + l.getD i 0 := wrap64_in (by omega) (by omega)
  apply Frm.succ
  simp only [ashlarref01_Int.l0, ei, er, ew, w1, tdiv10 dd.1 dd.2]
  generalize hg : l.getD i 0 = g at *
  generalize hA : val (l.drop (i + 1)) = A at *
  have w2 : wrap64 (-((9223372036854775808 - g) / 10)) = -((9223372036854775808 - g) / 10) := wrap64_in (by omega) (by omega)
  rw [w2]
  by_cases c : -A < -((9223372036854775808 - g) / 10)
  ·refine Frm.const fun k => ?_
   rw [if_pos (by omega), if_pos (by omega), if_pos (by omega), if_pos c]
   unfold fitp
   cases d
   ·rw [if_neg]; simp only [Bool.false_eq_true, if_false]; omega
   ·rw [if_neg]; simp only [if_true]; omega
  ·have ih := int_l0 hl d ll i (by omega) (by omega)
   refine ih.congr fun k => ?_
   rw [if_pos (by omega), if_pos (by omega), if_pos (by omega), if_neg c, wrap64_in (x := -A * 10) (by omega) (by omega), wrap64_in (by omega) (by omega), e]
   congr 1; omega
theorem int_dg (d : Bool) {m : Nat} (hm : (dg m).length ≤ 1000) : Frm (fun k => ashlarref01_Int.f k d (dg m)) (fitp (if d = true then -(m : Int) else m)) := by
 have := int_l0 (dg_dig m) d hm (dg m).length (Nat.le_refl _) (by rw [val_beyond (Nat.le_refl _)]; omega)
 rw [val_beyond (Nat.le_refl _), dg_val] at this
 refine this.congr fun k => ?_
 unfold ashlarref01_Int.f
 rw [wrap64_in (by omega) (by omega)]; rfl
theorem of_l0 (d : Bool) : ∀ (m : Nat) (x : Int) (out : List Int), In64 x → x.natAbs = m → out.length + (dg m).length ≤ 1000 → Frm (fun k => ashlarref01_Of.l0 k x d out) (d, out ++ dg m)
 | m, x, out, hx, hm, hl => by
  obtain ⟨x1, x2⟩ := hx
  by_cases h0 : x = 0
  ·subst h0
   have : m = 0 := by omega
   subst this
   apply Frm.succ
   refine Frm.const fun k => ?_
   simp only [ashlarref01_Of.l0]
   rw [if_pos trivial, dg_zero, List.append_nil]
  ·have hm0 : m ≠ 0 := by omega
   rw [dg_pos hm0] at hl ⊢
   simp only [List.length_cons] at hl
   by_cases hs : 0 ≤ x
   ·have e1 : Int.tmod x 10 = x % 10 := Int.tmod_eq_emod_of_nonneg hs
    have e2 : Int.tdiv x 10 = x / 10 := Int.tdiv_eq_ediv_of_nonneg hs
    have ih := of_l0 d (m / 10) (x / 10) (out ++ [((m % 10 : Nat) : Int)]) ⟨by omega, by omega⟩ (by omega) (by simp; omega)
    apply Frm.succ
    rw [List.append_assoc, List.singleton_append] at ih
    refine ih.congr fun k => ?_
    simp only [ashlarref01_Of.l0, e1, e2]
    have e3 : x % 10 = ((m % 10 : Nat) : Int) := by omega
    rw [if_neg h0, if_neg (by omega), if_pos (by omega), wrap64_in (by omega) (by omega), e3]
   ·obtain ⟨y, rfl⟩ : ∃ y, x = -y := ⟨-x, by omega⟩
    have e1 : Int.tmod (-y) 10 = -(y % 10) := by rw [Int.neg_tmod, Int.tmod_eq_emod_of_nonneg (by omega)]
    have e2 : Int.tdiv (-y) 10 = -(y / 10) := by rw [Int.neg_tdiv, Int.tdiv_eq_ediv_of_nonneg (by omega)]
    have ih := of_l0 d (m / 10) (-(y / 10)) (out ++ [((m % 10 : Nat) : Int)]) ⟨by omega, by omega⟩ (by omega) (by simp; omega)
    apply Frm.succ
    rw [List.append_assoc, List.singleton_append] at ih
    refine ih.congr fun k => ?_
    simp only [ashlarref01_Of.l0, e1, e2]
    have e3 : y % 10 = ((m % 10 : Nat) : Int) := by omega
    rw [if_neg h0]
    by_cases hz : -(y % 10) < 0
    ·rw [if_pos hz, if_pos (by omega), wrap64_in (x := -(y / 10)) (by omega) (by omega), Int.neg_neg, wrap64_in (by omega) (by omega), e3]
    ·have hz' : -(y % 10) = ((m % 10 : Nat) : Int) := by omega
     rw [if_neg hz, if_pos (by omega), wrap64_in (by omega) (by omega), hz']
termination_by m => m
decreasing_by all_goals omega
theorem len_in {x : Int} (h : In64 x) : (dg x.natAbs).length ≤ 19 := by
 obtain ⟨h1, h2⟩ := h
 exact dg_len (by omega)
theorem of_dg {x : Int} (h : In64 x) : Frm (fun k => ashlarref01_Of.f k x) (decide (x < 0), dg x.natAbs) := by
 have hl := len_in h
 have := of_l0 (decide (x < 0)) x.natAbs x [] h rfl (by simp; omega)
 simpa [ashlarref01_Of.f] using this
theorem plus_l0 {a b : List Int} (ha : Dig a) (hb : Dig b) (la : a.length ≤ 1000) (lb : b.length ≤ 1000) (d d' : Bool) {s : Nat} (hs : val a + val b = s) : ∀ (n i : Nat) (out : List Int) (c : Int), i + n = max a.length b.length + 1 → out.length = i → Dig out → (c = 0 ∨ c = 1) → val out + 10 ^ i * (val (a.drop i) + val (b.drop i) + c) = val a + val b →
  Frm (fun k => ashlarref01_Plus.l0 k out c (i : Int) d a d' b) (d && decide (s ≠ 0), dg s)
 | 0, i, out, c, hi, ho, hd, hc, hv => by
  rw [val_beyond (show a.length ≤ i by omega), val_beyond (show b.length ≤ i by omega)] at hv
  have h1 := val_lt ha
  have h2 := val_lt hb
  have h3 : (10 : Int) ^ a.length ≤ 10 ^ max a.length b.length := by
   have := Nat.pow_le_pow_right (n := 10) (by omega) (Nat.le_max_left a.length b.length)
   exact_mod_cast this
  have h4 : (10 : Int) ^ b.length ≤ 10 ^ max a.length b.length := by
   have := Nat.pow_le_pow_right (n := 10) (by omega) (Nat.le_max_right a.length b.length)
   exact_mod_cast this
  have h5 : (10 : Int) ^ i = 10 ^ max a.length b.length * 10 := by
   have : i = max a.length b.length + 1 := by omega
   rw [this, Int.pow_succ]
  have h6 := val_nonneg hd
  have hp : (0 : Int) < 10 ^ max a.length b.length := Int.pow_pos (by omega)
  have hvs : val out = s := by
   rw [h5] at hv
   generalize (10 : Int) ^ max a.length b.length = p at *
   rcases hc with rfl | rfl
   ·simp at hv; omega
   ·simp at hv; omega
  have hcut := cut_f d hd (by rw [ho]; omega) hvs
  have hm : ¬ (i : Int) ≤ mx (a.length : Int) (b.length : Int) := by unfold mx; split <;> omega
  apply Frm.succ
  refine Frm.const fun k => ?_
  simp only [ashlarref01_Plus.l0]
  rw [if_neg hm, hcut]; rfl
 | n + 1, i, out, c, hi, ho, hd, hc, hv => by
  have e1 := val_drop a i
  have e2 := val_drop b i
  have d1 := getD_dig ha i
  have d2 := getD_dig hb i
  have f1 : (i : Int) ≤ mx (a.length : Int) (b.length : Int) := by clear hv; unfold mx; split <;> omega
  have f3 : out.length < 17592186044416 := by rw [ho]; exact Nat.lt_of_le_of_lt (show i ≤ 1001 by clear hv; omega) (by decide)
  have ew : wrap64 ((i : Int) + 1) = ((i + 1 : Nat) : Int) := wrap64_in Z110 Z110
  have w1 : wrap64 (a.getD i 0 + b.getD i 0) = a.getD i 0 + b.getD i 0 := wrap64_in Z110 Z110
  have w2 : wrap64 (a.getD i 0 + b.getD i 0 + c) = a.getD i 0 + b.getD i 0 + c := wrap64_in Z110 Z110
  generalize hx : a.getD i 0 = x at *
  generalize hy : b.getD i 0 = y at *
  have t1 : Int.tmod (x + y + c) 10 = (x + y + c) % 10 := Int.tmod_eq_emod_of_nonneg Z110
  have t2 : Int.tdiv (x + y + c) 10 = (x + y + c) / 10 := Int.tdiv_eq_ediv_of_nonneg Z110
  have w3 : wrap64 ((x + y + c) / 10) = (x + y + c) / 10 := wrap64_in Z110 Z110
  have ih := plus_l0 ha hb la lb d d' hs n (i + 1) (out ++ [(x + y + c) % 10]) ((x + y + c) / 10) (by omega) (by simp [ho]) (dig_append.2 ⟨hd, dig_cons.2 ⟨by clear hv; omega, dig_nil⟩⟩) Z110 (by
   have q := Int.mul_ediv_add_emod (x + y + c) 10
   rw [val_append, ho, ← hv, e1, e2, Int.pow_succ]; simp only [val]
   generalize (x + y + c) / 10 = u at *
   generalize (x + y + c) % 10 = v at *
   have : x + y + c = 10 * u + v := by omega
   have r : x + 10 * val (List.drop (i + 1) a) + (y + 10 * val (List.drop (i + 1) b)) + c = 10 * (val (List.drop (i + 1) a) + val (List.drop (i + 1) b) + u) + v := by omega
   rw [r]; grind)
  apply Frm.succ
  refine ih.congr fun k => ?_
  simp only [ashlarref01_Plus.l0, at_f, hx, hy, Option.bind_some, w1, w2, w3, ew, t1, t2]
  rw [if_pos f1, if_pos f3]
theorem plus_dg {x y : Int} (hx : (dg x.natAbs).length ≤ 1000) (hy : (dg y.natAbs).length ≤ 1000) :
  Frm (fun k => ashlarref01_Plus.f k (decide (x < 0)) (dg x.natAbs) (decide (y < 0)) (dg y.natAbs)) (decide (x + y < 0), dg (x + y).natAbs) := by
 unfold ashlarref01_Plus.f
 by_cases hs : (decide (x < 0) != decide (y < 0)) = true
 ·simp only [if_pos hs]
  have hs' : (x < 0 ∧ ¬ y < 0) ∨ (¬ x < 0 ∧ y < 0) := by
   by_cases a : x < 0 <;> by_cases b : y < 0 <;> simp [a, b] at hs ⊢
  refine Frm.bind (cmp_size (by omega) (by omega)) ?_
  by_cases hlt : cmpI ((x.natAbs : Int) - y.natAbs) < 0
  ·have hl : (x.natAbs : Int) < y.natAbs := by
    have := ge_cmp (x := (x.natAbs : Int) - y.natAbs); omega
   obtain ⟨r, h1, h2, h3, h4⟩ := apart_ev (dg_dig y.natAbs) (dg_dig x.natAbs) (by omega) (by rw [dg_val, dg_val]; omega)
   rw [dg_val, dg_val] at h3
   have hcut := cut_f (decide (y < 0)) h2 (by omega) (n := (x + y).natAbs) (by omega)
   simp only [if_pos hlt]
   refine Frm.bind h1 ?_
   refine Frm.const fun k => ?_
   rw [hcut]
   have : (decide (y < 0) && decide ((x + y).natAbs ≠ 0)) = decide (x + y < 0) := by
    by_cases a : y < 0
    ·have h5 : x + y < 0 := by omega
     have h6 : (x + y).natAbs ≠ 0 := by omega
     simp only [decide_eq_true a, decide_eq_true h5, decide_eq_true h6]; rfl
    ·have h5 : ¬ x + y < 0 := by omega
     simp only [decide_eq_false a, decide_eq_false h5]; rfl
   simp only [Option.bind_some, this]
  ·have hl : (y.natAbs : Int) ≤ x.natAbs := by
    have := ge_cmp (x := (x.natAbs : Int) - y.natAbs); omega
   obtain ⟨r, h1, h2, h3, h4⟩ := apart_ev (dg_dig x.natAbs) (dg_dig y.natAbs) (by omega) (by rw [dg_val, dg_val]; omega)
   rw [dg_val, dg_val] at h3
   have hcut := cut_f (decide (x < 0)) h2 (by omega) (n := (x + y).natAbs) (by omega)
   simp only [if_neg hlt]
   refine Frm.bind h1 ?_
   refine Frm.const fun k => ?_
   rw [hcut]
   have : (decide (x < 0) && decide ((x + y).natAbs ≠ 0)) = decide (x + y < 0) := by
    by_cases a : x < 0
    ·by_cases z : x + y = 0
     ·have h5 : ¬ x + y < 0 := by omega
      have h6 : ¬ (x + y).natAbs ≠ 0 := by omega
      simp only [decide_eq_true a, decide_eq_false h5, decide_eq_false h6]; rfl
     ·have h5 : x + y < 0 := by omega
      have h6 : (x + y).natAbs ≠ 0 := by omega
      simp only [decide_eq_true a, decide_eq_true h5, decide_eq_true h6]; rfl
    ·have h5 : ¬ x + y < 0 := by omega
     simp only [decide_eq_false a, decide_eq_false h5]; rfl
   simp only [Option.bind_some, this]
 ·simp only [if_neg hs]
  have hs' : (x < 0 ∧ y < 0) ∨ (¬ x < 0 ∧ ¬ y < 0) := by
   by_cases a : x < 0 <;> by_cases b : y < 0 <;> simp [a, b] at hs ⊢
  have := plus_l0 (dg_dig x.natAbs) (dg_dig y.natAbs) hx hy (decide (x < 0)) (decide (y < 0)) (s := (x + y).natAbs) (by rw [dg_val, dg_val]; omega) (max (dg x.natAbs).length (dg y.natAbs).length + 1) 0 [] 0 (by omega) rfl dig_nil (.inl rfl) (by simp [val])
  have e : (decide (x < 0) && decide ((x + y).natAbs ≠ 0)) = decide (x + y < 0) := by
   by_cases a : x < 0
   ·have h5 : x + y < 0 := by omega
    have h6 : (x + y).natAbs ≠ 0 := by omega
    simp only [decide_eq_true a, decide_eq_true h5, decide_eq_true h6]; rfl
   ·have h5 : ¬ x + y < 0 := by omega
    simp only [decide_eq_false a, decide_eq_false h5]; rfl
  rw [e] at this
  exact this
theorem getD_set {l : List Int} {i : Nat} (h : i < l.length) (v : Int) (j : Nat) : (l.set i v).getD j 0 = if j = i then v else l.getD j 0 := by
 by_cases e : j = i
 ·subst e; rw [if_pos rfl]; simp [List.getElem?_set, h]
 ·rw [if_neg e]; simp [List.getElem?_set, Ne.symm e]
theorem val_set : ∀ {l : List Int} {i : Nat} (v : Int), i < l.length → val (l.set i v) = val l + 10 ^ i * (v - l.getD i 0)
 | [], i, v, h => by simp at h
 | d :: t, 0, v, h => by simp [val]; omega
 | d :: t, i + 1, v, h => by
  have ih := val_set (l := t) (i := i) v (by simpa using h)
  simp only [List.set_cons_succ, val, ih, List.getD_cons_succ, Int.pow_succ]; grind
theorem dig_of {l : List Int} (h : ∀ j, 0 ≤ l.getD j 0 ∧ l.getD j 0 ≤ 9) : Dig l := by
 intro d hd
 obtain ⟨j, hj, rfl⟩ := List.getElem_of_mem hd
 have := h j
 simpa [List.getElem?_eq_getElem hj] using this
theorem val_ge {l : List Int} (h : ∀ j, 0 ≤ l.getD j 0) : ∀ j : Nat, 10 ^ j * val (l.drop j) ≤ val l
 | 0 => by simp
 | j + 1 => by
  have ih := val_ge h j
  have e := val_drop l j
  have hj := h j
  have : (10 : Int) ^ (j + 1) * val (l.drop (j + 1)) ≤ 10 ^ j * val (l.drop j) := by
   rw [Int.pow_succ, Int.mul_assoc]
   exact Int.mul_le_mul_of_nonneg_left (by omega) (Int.le_of_lt (Int.pow_pos (by omega)))
  omega
theorem val_take (l : List Int) {i : Nat} (h : i < l.length) : val (l.take (i + 1)) = val (l.take i) + 10 ^ i * l.getD i 0 := by
 rw [List.take_add_one, val_append, List.length_take]
 have : min i l.length = i := by omega
 rw [this]
 simp [List.getElem?_eq_getElem h, val]
theorem times_l2 {a b : List Int} (d d' : Bool) (res : Bool × List Int) (i : Nat) (n : Nat) (hn : n ≤ 3000) (V : Int) (hV : V < 10 ^ (n - 1))
  (K : ∀ out : List Int, out.length = n → Dig out → val out = V → Frm (fun k => ashlarref01_Times.l0 k out (wrap64 ((i : Int) + 1)) d a d' b) res) :
  ∀ (m j : Nat) (out : List Int), j + m + 1 = n → out.length = n → val out = V → (∀ t, 0 ≤ out.getD t 0 ∧ out.getD t 0 ≤ 100) → (∀ t, t < j → out.getD t 0 ≤ 9) → (∀ t, j < t → out.getD t 0 ≤ 90) →
  Frm (fun k => ashlarref01_Times.l2 k out (i : Int) (j : Int) d a d' b) res
 | 0, j, out, hj, hl, hv, hb, h9, h90 => by
  have ew : wrap64 ((j : Int) + 1) = ((j + 1 : Nat) : Int) := wrap64_in (by omega) (by omega)
  have hlast : out.getD j 0 = 0 := by
   have g := val_ge (fun t => (hb t).1) j
   have e := val_drop out j
   rw [val_beyond (show out.length ≤ j + 1 by omega)] at e
   have hj' : n - 1 = j := by omega
   rw [hj'] at hV
   have h0 := (hb j).1
   rw [e] at g
   by_cases z : out.getD j 0 = 0
   ·exact z
   ·have hp : (0 : Int) < 10 ^ j := Int.pow_pos (by omega)
    have : (10 : Int) ^ j * 1 ≤ 10 ^ j * (out.getD j 0 + 10 * 0) := Int.mul_le_mul_of_nonneg_left (by omega) (by omega)
    omega
  have hd : Dig out := dig_of fun t => by
   refine ⟨(hb t).1, ?_⟩
   rcases Nat.lt_trichotomy t j with c | c | c
   ·exact h9 t c
   ·rw [c, hlast]; omega
   ·have : out.getD t 0 = 0 := by simp [List.getElem?_eq_none (show out.length ≤ t by omega)]
    omega
  apply Frm.succ
  refine (K out hl hd hv).congr fun k => ?_
  simp only [ashlarref01_Times.l2, ew]
  rw [if_neg (by omega)]
 | m + 1, j, out, hj, hl, hv, hb, h9, h90 => by
  have ew : wrap64 ((j : Int) + 1) = ((j + 1 : Nat) : Int) := wrap64_in (by omega) (by omega)
  have b0 := hb j
  have b1 := hb (j + 1)
  have b90 := h90 (j + 1) (by omega)
  have er : rd out (j : Int) = out.getD j 0 := by simp [rd]
  have er1 : rd out ((j + 1 : Nat) : Int) = out.getD (j + 1) 0 := by simp only [rd, Int.toNat_natCast]
  generalize hx : out.getD j 0 = x at *
  generalize hy : out.getD (j + 1) 0 = y at *
  have t1 : Int.tdiv x 10 = x / 10 := Int.tdiv_eq_ediv_of_nonneg b0.1
  have t2 : Int.tmod x 10 = x % 10 := Int.tmod_eq_emod_of_nonneg b0.1
  have w1 : wrap64 (x / 10) = x / 10 := wrap64_in (by omega) (by omega)
  have w2 : wrap64 (y + x / 10) = y + x / 10 := wrap64_in (by omega) (by omega)
  have l1 : (out.set (j + 1) (y + x / 10)).length = n := by rw [List.length_set, hl]
  have g1 : ∀ t, (out.set (j + 1) (y + x / 10)).getD t 0 = if t = j + 1 then y + x / 10 else out.getD t 0 := getD_set (by omega) _
  have er2 : rd (out.set (j + 1) (y + x / 10)) (j : Int) = x := by
   have := g1 j
   rw [if_neg (by omega), hx] at this
   simpa [rd] using this
  have g2 : ∀ t, ((out.set (j + 1) (y + x / 10)).set j (x % 10)).getD t 0 = if t = j then x % 10 else if t = j + 1 then y + x / 10 else out.getD t 0 := by
   intro t; rw [getD_set (by omega), g1]
  have ih := times_l2 d d' res i n hn V hV K m (j + 1) ((out.set (j + 1) (y + x / 10)).set j (x % 10)) (by omega) (by rw [List.length_set, l1]) (by
    rw [val_set _ (by omega), val_set _ (by omega), g1, if_neg (by omega), hx, hy, ← hv, Int.pow_succ]
    have := Int.mul_ediv_add_emod x 10
    generalize x / 10 = u at *
    generalize x % 10 = v at *
    have : v - x = -(10 * u) := by omega
    rw [this]; grind) (by
    intro t; rw [g2]
    have := hb t
    split
    ·omega
    ·split
     ·omega
     ·exact this) (by
    intro t ht; rw [g2]
    split
    ·omega
    ·rw [if_neg (by omega)]; exact h9 t (by omega)) (by
    intro t ht; rw [g2, if_neg (by omega), if_neg (by omega)]; exact h90 t (by omega))
  apply Frm.succ
  refine ih.congr fun k => ?_
  simp only [ashlarref01_Times.l2, ew, er, er1, t1, w1, w2, Option.bind_some, Int.toNat_natCast, er2, t2]
  rw [if_pos (by omega), if_pos (by omega), if_pos (by omega), if_pos (by omega)]
theorem ring1 (V0 x p q A y z : Int) : V0 + x * p * A + p * q * (z + x * y - z) = V0 + x * p * (A + q * y) := by grind
theorem ring2 (A p x B : Int) : (A + p * x) * B = A * B + x * p * B := by grind
theorem times_l1 {a b : List Int} (ha : Dig a) (hb' : Dig b) (d d' : Bool) (res : Bool × List Int) (i : Nat) (n : Nat) (hn : n ≤ 3000) (hna : n = a.length + b.length + 1) (hi : i < a.length) (V0 V : Int) (hV : V < 10 ^ (n - 1)) (hVV : V = V0 + a.getD i 0 * 10 ^ i * val b)
  (K : ∀ out : List Int, out.length = n → Dig out → val out = V → Frm (fun k => ashlarref01_Times.l0 k out (wrap64 ((i : Int) + 1)) d a d' b) res) :
  ∀ (m j : Nat) (out : List Int), j + m = b.length → out.length = n → val out = V0 + a.getD i 0 * 10 ^ i * val (b.take j) → (∀ t, 0 ≤ out.getD t 0 ∧ out.getD t 0 ≤ 90) → (∀ t, i + j ≤ t → out.getD t 0 ≤ 9) →
  Frm (fun k => ashlarref01_Times.l1 k out (i : Int) (j : Int) d a d' b) res
 | 0, j, out, hj, hl, hv, hb, h9 => by
  have hv' : val out = V := by rw [hv, hVV, List.take_of_length_le (by omega)]
  have key := times_l2 d d' res i n hn V hV K (n - 1) 0 out (by omega) hl hv' (fun t => ⟨(hb t).1, by have := (hb t).2; omega⟩) (fun t ht => by omega) (fun t ht => (hb t).2)
  apply Frm.succ
  refine key.congr fun k => ?_
  simp only [ashlarref01_Times.l1]
  rw [if_neg (by omega)]; rfl
 | m + 1, j, out, hj, hl, hv, hb, h9 => by
  have hlt : i + j < out.length := by clear hv hVV hV; omega
  have ew : wrap64 ((j : Int) + 1) = ((j + 1 : Nat) : Int) := wrap64_in (by omega) (by omega)
  have ew2 : wrap64 ((i : Int) + (j : Int)) = ((i + j : Nat) : Int) := by
   rw [← Int.natCast_add]; exact wrap64_in (by clear hv hVV hV; omega) (by clear hv hVV hV; omega)
  have da := getD_dig ha i
  have db := getD_dig hb' j
  have hbt := val_take b (show j < b.length by omega)
  have b0 := hb (i + j)
  have b9 := h9 (i + j) (by omega)
  have ea : rd a (i : Int) = a.getD i 0 := by simp [rd]
  have eb : rd b (j : Int) = b.getD j 0 := by simp [rd]
  have eo : rd out ((i + j : Nat) : Int) = out.getD (i + j) 0 := by simp only [rd, Int.toNat_natCast]
  generalize hx : a.getD i 0 = x at *
  generalize hy : b.getD j 0 = y at *
  generalize hz : out.getD (i + j) 0 = z at *
  have p0 : 0 ≤ x * y := Int.mul_nonneg da.1 db.1
  have p1 : x * y ≤ 81 := by
   have h1 : x * y ≤ 9 * y := Int.mul_le_mul_of_nonneg_right da.2 db.1
   omega
  have w1 : wrap64 (x * y) = x * y := wrap64_in Z111 Z111
  have w2 : wrap64 (z + x * y) = z + x * y := wrap64_in Z111 Z111
  have g1 : ∀ t, (out.set (i + j) (z + x * y)).getD t 0 = if t = i + j then z + x * y else out.getD t 0 := getD_set hlt _
  have ih := times_l1 ha hb' d d' res i n hn hna hi V0 V hV (by rw [hx]; exact hVV) K m (j + 1) (out.set (i + j) (z + x * y)) Z111 (by rw [List.length_set, hl]) (by
    rw [val_set _ hlt, hz, hv, hbt, hx, Int.pow_add]; exact ring1 _ _ _ _ _ _ _) (by
    intro t; rw [g1]
    have := hb t
    split
    ·exact Z111
    ·exact this) (by
    intro t ht; rw [g1, if_neg Z111]; exact h9 t Z111)
  apply Frm.succ
  refine ih.congr fun k => ?_
  simp only [ashlarref01_Times.l1, ew, ew2, ea, eb, eo, w1, w2, Int.toNat_natCast]
  have f1 : (j : Int) < (b.length : Int) := by clear hv hVV hbt hV; omega
  have f2 : (0 : Int) ≤ ((i + j : Nat) : Int) := Int.natCast_nonneg _
  have f3 : ((i + j : Nat) : Int) < (out.length : Int) := by clear hv hVV hbt hV; omega
  have f4 : (0 : Int) ≤ (i : Int) := Int.natCast_nonneg _
  have f5 : (i : Int) < (a.length : Int) := by clear hv hVV hbt hV; omega
  have f6 : (0 : Int) ≤ (j : Int) := Int.natCast_nonneg _
  rw [if_pos f1, if_pos f2, if_pos f3, if_pos f4, if_pos f5, if_pos f6]
theorem times_l0 {a b : List Int} (ha : Dig a) (hb : Dig b) (la : a.length ≤ 1000) (lb : b.length ≤ 1000) (d d' : Bool) {s : Nat} (hs : val a * val b = s) : ∀ (m i : Nat) (out : List Int), i + m = a.length → out.length = a.length + b.length + 1 → Dig out → val out = val (a.take i) * val b →
  Frm (fun k => ashlarref01_Times.l0 k out (i : Int) d a d' b) ((d != d') && decide (s ≠ 0), dg s)
 | 0, i, out, hi, hl, hd, hv => by
  have hcut := cut_f (d != d') hd (by omega) (n := s) (by rw [hv, List.take_of_length_le (by omega), hs])
  apply Frm.succ
  refine Frm.const fun k => ?_
  simp only [ashlarref01_Times.l0]
  rw [if_neg (by omega), hcut]; rfl
 | m + 1, i, out, hi, hl, hd, hv => by
  have ew : wrap64 ((i : Int) + 1) = ((i + 1 : Nat) : Int) := wrap64_in (by omega) (by omega)
  have ht := val_take a (show i < a.length by omega)
  have hlt : val (a.take (i + 1)) * val b < 10 ^ (a.length + b.length + 1 - 1) := by
   have h1 := val_lt (dig_take ha (i + 1))
   have h2 := val_lt hb
   have h3 := val_nonneg (dig_take ha (i + 1))
   have h4 := val_nonneg hb
   have hlen : (a.take (i + 1)).length ≤ a.length := by rw [List.length_take]; omega
   have h5 : (10 : Int) ^ (a.take (i + 1)).length ≤ 10 ^ a.length := by
    have := Nat.pow_le_pow_right (n := 10) (by omega) hlen
    exact_mod_cast this
   rw [Nat.add_sub_cancel, Int.pow_add]
   have q1 : val (a.take (i + 1)) * val b ≤ val (a.take (i + 1)) * 10 ^ b.length := Int.mul_le_mul_of_nonneg_left (by omega) h3
   have q2 : val (a.take (i + 1)) * 10 ^ b.length < 10 ^ a.length * 10 ^ b.length := Int.mul_lt_mul_of_pos_right (by omega) (Int.pow_pos (by omega))
   omega
  have key := times_l1 ha hb d d' _ i (a.length + b.length + 1) (by omega) rfl (by omega) (val (a.take i) * val b) (val (a.take (i + 1)) * val b) hlt (by rw [ht]; exact ring2 _ _ _ _)
   (fun o h1 h2 h3 => by rw [ew]; exact times_l0 ha hb la lb d d' hs m (i + 1) o (by omega) h1 h2 h3) b.length 0 out (by omega) hl (by rw [hv]; simp [val]) (fun t => by have := getD_dig hd t; omega) (fun t _ => (getD_dig hd t).2)
  apply Frm.succ
  refine key.congr fun k => ?_
  simp only [ashlarref01_Times.l0]
  rw [if_pos (by omega)]; rfl
theorem sign_mul (x y : Int) : ((decide (x < 0) != decide (y < 0)) && decide (x.natAbs * y.natAbs ≠ 0)) = decide (x * y < 0) := by
 have e : x.natAbs * y.natAbs = (x * y).natAbs := (Int.natAbs_mul x y).symm
 rw [e]
 by_cases a : x < 0
 ·by_cases b : y < 0
  ·have : 0 < x * y := Int.mul_pos_of_neg_of_neg a b
   have h : ¬ x * y < 0 := by omega
   simp [a, b, h]
  ·by_cases z : y = 0
   ·subst z; simp
   ·have h : x * y < 0 := Int.mul_neg_of_neg_of_pos a (by omega)
    have h2 : (x * y).natAbs ≠ 0 := by omega
    simp only [decide_eq_true a, decide_eq_false b, decide_eq_true h, decide_eq_true h2]; rfl
 ·by_cases b : y < 0
  ·by_cases z : x = 0
   ·subst z; simp
   ·have h : x * y < 0 := Int.mul_neg_of_pos_of_neg (by omega) b
    have h2 : (x * y).natAbs ≠ 0 := by omega
    simp only [decide_eq_false a, decide_eq_true b, decide_eq_true h, decide_eq_true h2]; rfl
  ·have : 0 ≤ x * y := Int.mul_nonneg (by omega) (by omega)
   have h : ¬ x * y < 0 := by omega
   simp [a, b, h]
theorem val_zeros : ∀ n : Nat, val (List.replicate n 0) = 0
 | 0 => rfl
 | n + 1 => by simp [List.replicate_succ, val, val_zeros n]
theorem times_dg {x y : Int} (hx : (dg x.natAbs).length ≤ 1000) (hy : (dg y.natAbs).length ≤ 1000) :
  Frm (fun k => ashlarref01_Times.f k (decide (x < 0)) (dg x.natAbs) (decide (y < 0)) (dg y.natAbs)) (decide (x * y < 0), dg (x * y).natAbs) := by
 have key := times_l0 (dg_dig x.natAbs) (dg_dig y.natAbs) hx hy (decide (x < 0)) (decide (y < 0)) (s := x.natAbs * y.natAbs) (by rw [dg_val, dg_val, Int.natCast_mul]) (dg x.natAbs).length 0 (List.replicate ((dg x.natAbs).length + (dg y.natAbs).length + 1) 0) (by omega) (by simp) (fun d hd => by rw [List.eq_of_mem_replicate hd]; omega) (by rw [val_zeros]; simp [val])
 rw [sign_mul, ← Int.natAbs_mul] at key
 refine key.congr fun k => ?_
 unfold ashlarref01_Times.f
 have w : wrap64 (wrap64 (((dg x.natAbs).length : Int) + ((dg y.natAbs).length : Int)) + 1) = (((dg x.natAbs).length + (dg y.natAbs).length + 1 : Nat) : Int) := by
  rw [wrap64_in (x := ((dg x.natAbs).length : Int) + ((dg y.natAbs).length : Int)) (by omega) (by omega), wrap64_in (by omega) (by omega)]; omega
 rw [w, if_pos (by omega), if_pos (by omega), Int.toNat_natCast]; rfl
end Go.Proofs.YtbpjnkeilhfajaaGreat.DigNumReckons
