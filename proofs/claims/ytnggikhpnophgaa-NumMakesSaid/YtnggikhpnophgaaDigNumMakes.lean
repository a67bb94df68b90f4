/- Plain law: what the document's digits reckon (law NumMakes). -/
import Derived.Test.YtnggikhpnophgaaDigA
import Derived.Test.YtnggikhpnophgaaNumT
import Derived.Test.YtnggikhpnophgaaPNumMakesx3
namespace Go.Proofs.Ytnggikhpnophgaa.DigNumMakes
set_option linter.unusedVariables false
set_option linter.unusedSimpArgs false
open Go.RowKit Go.Proofs.Ytnggikhpnophgaa.Given Go.Proofs.Ytnggikhpnophgaa.PNumMakes Go.Proofs.YtnggikhpnophgaaW.PrintWords Go.Proofs.YtnggikhpnophgaaW.PrintMore Go.Proofs.Ytnggikhpnophgaa.Ref Go.Proofs.Ytnggikhpnophgaa.Dig Go.Proofs.Ytnggikhpnophgaa.Num

theorem cut_f (d : Bool) {l : List Int} (h : Dig l) (hl : l.length ≤ 1000000) {n : Nat} (hv : val l = n) : ashlarref01_cut.f d l = some (d && decide (n ≠ 0), dg n) := by
  unfold ashlarref01_cut.f
  rw [if_pos hl, cut_dg' h hv]
  have : (0 < (dg n).length) = (n ≠ 0) := by
    have h0 := dg_len0 (n := n)
    apply propext; omega
  simp only [this]

theorem at_f {l : List Int} {i : Nat} : ashlarref01_at.f l (i : Int) = some (l.getD i 0) := by
  unfold ashlarref01_at.f rd
  by_cases h : (i : Int) < l.length
  · rw [if_pos h, if_pos (by omega)]; simp
  · rw [if_neg h]; simp [List.getElem?_eq_none (show l.length ≤ i by omega)]

theorem size_l0 {a b : List Int} (ha : Dig a) (hb : Dig b) : ∀ i : Nat, i ≤ 1000000 → val (a.drop i) = val (b.drop i) → Frm (fun k => ashlarref01_size.l0 k a b ((i : Int) - 1)) (cmpI (val a - val b))
  | 0, _, h => by
    apply Frm.succ
    refine Frm.const fun k => ?_
    simp only [ashlarref01_size.l0]
    rw [if_neg (by omega)]
    have : val a = val b := by simpa using h
    simp [this, cmpI]
  | i + 1, hi, h => by
    have ih := size_l0 ha hb i (by omega)
    have e1 := val_drop a i
    have e2 := val_drop b i
    have l1 := lt_of_drop ha hb i
    have l2 := lt_of_drop hb ha i
    have ei : ((i + 1 : Nat) : Int) - 1 = (i : Int) := by omega
    have ew : wrap64 ((i : Int) - 1) = (i : Int) - 1 := wrap64_in (by omega) (by omega)
    apply Frm.succ
    simp only [ashlarref01_size.l0, ei, ew, at_f, Option.bind_some]
    by_cases c1 : a.getD i 0 < b.getD i 0
    · refine Frm.const fun k => ?_
      rw [if_pos (by omega), if_pos c1]
      have := l1 (by omega)
      unfold cmpI; rw [if_pos (by omega)]
    · by_cases c2 : a.getD i 0 > b.getD i 0
      · refine Frm.const fun k => ?_
        rw [if_pos (by omega), if_neg c1, if_pos c2]
        have := l2 (by omega)
        unfold cmpI; rw [if_neg (by omega), if_neg (by omega)]
      · refine (ih (by omega)).congr fun k => ?_
        rw [if_pos (by omega), if_neg c1, if_neg c2]

theorem size_ev {a b : List Int} (ha : Dig a) (hb : Dig b) (la : a.length ≤ 1000000) (lb : b.length ≤ 1000000) : Frm (fun k => ashlarref01_size.f k a b) (cmpI (val a - val b)) := by
  unfold ashlarref01_size.f mx
  by_cases h : (a.length : Int) < b.length
  · have := size_l0 ha hb b.length lb (by rw [val_beyond (Nat.le_refl _), val_beyond (by omega)])
    refine this.congr fun k => ?_
    rw [if_pos h, wrap64_in (by omega) (by omega)]
  · have := size_l0 ha hb a.length la (by rw [val_beyond (Nat.le_refl _), val_beyond (by omega)])
    refine this.congr fun k => ?_
    rw [if_neg h, wrap64_in (by omega) (by omega)]

theorem apart_l0 {a b : List Int} (ha : Dig a) (hb : Dig b) (la : a.length ≤ 1000000) (hab : val b ≤ val a) : ∀ (n i : Nat) (out : List Int) (c : Int), i + n = a.length → out.length = i → Dig out → (c = 0 ∨ c = 1) → val out + 10 ^ i * (val (a.drop i) - val (b.drop i) - c) = val a - val b →
    ∃ r, Frm (fun k => ashlarref01_apart.l0 k a b out c (i : Int)) r ∧ Dig r ∧ val r = val a - val b ∧ r.length = a.length
  | 0, i, out, c, hi, ho, hd, hc, hv => by
    refine ⟨out, ?_, hd, ?_, by omega⟩
    · apply Frm.succ
      refine Frm.const fun k => ?_
      simp only [ashlarref01_apart.l0]
      rw [if_neg (by omega)]
    · rw [val_beyond (show a.length ≤ i by omega)] at hv
      have h1 := val_lt hd
      have h2 := val_nonneg hd
      have h3 := val_nonneg (dig_drop hb i)
      rw [ho] at h1
      have hp : (0 : Int) < 10 ^ i := Int.pow_pos (by omega)
      by_cases hz : val (b.drop i) + c = 0
      · have : (0 : Int) - val (b.drop i) - c = 0 := by omega
        rw [this] at hv; omega
      · have : (10 : Int) ^ i * (0 - val (b.drop i) - c) ≤ 10 ^ i * (-1) := Int.mul_le_mul_of_nonneg_left (by omega) (by omega)
        omega
  | n + 1, i, out, c, hi, ho, hd, hc, hv => by
    have e1 := val_drop a i
    have e2 := val_drop b i
    have d1 := getD_dig ha i
    have d2 := getD_dig hb i
    have er : rd a (i : Int) = a.getD i 0 := by simp [rd]
    have ew : wrap64 ((i : Int) + 1) = ((i + 1 : Nat) : Int) := wrap64_in (by omega) (by omega)
    have w1 : wrap64 (a.getD i 0 - b.getD i 0) = a.getD i 0 - b.getD i 0 := wrap64_in (by omega) (by omega)
    have w2 : wrap64 (a.getD i 0 - b.getD i 0 - c) = a.getD i 0 - b.getD i 0 - c := wrap64_in (by omega) (by omega)
    have w3 : wrap64 (a.getD i 0 - b.getD i 0 - c + 10) = a.getD i 0 - b.getD i 0 - c + 10 := wrap64_in (by omega) (by omega)
    have f1 : (i : Int) < (a.length : Int) := by clear hv w1 w2 w3 ew; omega
    have f2 : 0 ≤ (i : Int) := Int.natCast_nonneg _
    have f3 : out.length < 17592186044416 := by rw [ho]; exact Nat.lt_of_le_of_lt (by omega) (Nat.lt_of_le_of_lt la (by decide))
    by_cases hlt : a.getD i 0 - b.getD i 0 - c < 0
    · obtain ⟨r, h1, h2⟩ := apart_l0 ha hb la hab n (i + 1) (out ++ [a.getD i 0 - b.getD i 0 - c + 10]) 1 (by omega) (by simp [ho]) (dig_append.2 ⟨hd, dig_cons.2 ⟨by omega, dig_nil⟩⟩) (.inr rfl) (by
        rw [val_append, ho, ← hv, e1, e2, Int.pow_succ]; simp only [val]; grind)
      refine ⟨r, ?_, h2⟩
      apply Frm.succ
      refine h1.congr fun k => ?_
      simp only [ashlarref01_apart.l0, er, at_f, Option.bind_some, w1, w2, w3, ew]
      rw [if_pos f1, if_pos f2, if_pos hlt, if_pos f3]
    · obtain ⟨r, h1, h2⟩ := apart_l0 ha hb la hab n (i + 1) (out ++ [a.getD i 0 - b.getD i 0 - c]) 0 (by omega) (by simp [ho]) (dig_append.2 ⟨hd, dig_cons.2 ⟨by omega, dig_nil⟩⟩) (.inl rfl) (by
        rw [val_append, ho, ← hv, e1, e2, Int.pow_succ]; simp only [val]; grind)
      refine ⟨r, ?_, h2⟩
      apply Frm.succ
      refine h1.congr fun k => ?_
      simp only [ashlarref01_apart.l0, er, at_f, Option.bind_some, w1, w2, w3, ew]
      rw [if_pos f1, if_pos f2, if_neg hlt, if_pos f3]

theorem apart_ev {a b : List Int} (ha : Dig a) (hb : Dig b) (la : a.length ≤ 1000000) (hab : val b ≤ val a) :
    ∃ r, Frm (fun k => ashlarref01_apart.f k a b) r ∧ Dig r ∧ val r = val a - val b ∧ r.length = a.length := by
  unfold ashlarref01_apart.f
  exact apart_l0 ha hb la hab a.length 0 [] 0 (by omega) rfl dig_nil (.inl rfl) (by simp [val])

theorem ge_cmp {x : Int} : cmpI x ≥ 0 ↔ 0 ≤ x := by
  unfold cmpI; by_cases h : x < 0
  · rw [if_pos h]; omega
  · by_cases h2 : x = 0
    · rw [if_neg h, if_pos h2]; omega
    · rw [if_neg h, if_neg h2]; omega

theorem cmp_size {m n : Nat} (hm : (dg m).length ≤ 1000000) (hn : (dg n).length ≤ 1000000) : Frm (fun k => ashlarref01_size.f k (dg m) (dg n)) (cmpI ((m : Int) - n)) := by
  have := size_ev (dg_dig m) (dg_dig n) hm hn
  rwa [dg_val, dg_val] at this

/-- The rounds for one digit. -/
theorem over_l1 {a : List Int} {n : Nat} (hn : n ≠ 0) (ln : (dg n).length ≤ 1000) (ab bb : Bool) (res : Bool × List Int × Bool × List Int) (i : Nat) (li : i ≤ 1000) (R0 : Nat) (hR : R0 < 10 * n) (q : List Int)
    (K : Frm (fun k => ashlarref01_Over.l0 k (List.replicate i 0 ++ ((R0 / n : Nat) : Int) :: q) ((i : Int) - 1) ab a bb (dg n) false (dg (R0 % n))) res) :
    ∀ m c R : Nat, R / n = m → R + c * n = R0 → Frm (fun k => ashlarref01_Over.l1 k (List.replicate i 0 ++ (c : Int) :: q) (i : Int) ab a bb (dg n) false (dg R)) res
  | m, c, R, hm, hc => by
    have lR : (dg R).length ≤ 1001 := by
      have h1 := val_lt (dg_dig n)
      rw [dg_val] at h1
      have h3 : R < 10 ^ ((dg n).length + 1) := by
        have : (n : Int) < ((10 ^ (dg n).length : Nat) : Int) := by rw [Int.natCast_pow]; exact h1
        have h4 : n < 10 ^ (dg n).length := by omega
        have : R ≤ R0 := by have := Nat.zero_le (c * n); omega
        rw [Nat.pow_succ]; omega
      have := dg_len h3
      omega
    have sz := cmp_size (m := R) (n := n) (by omega) (by omega)
    have ew : wrap64 ((i : Int) - 1) = (i : Int) - 1 := wrap64_in (by omega) (by omega)
    apply Frm.succ
    simp only [ashlarref01_Over.l1, ew]
    refine Frm.bind (f := fun k t138 => (if t138 ≥ 0 then ((ashlarref01_apart.f k (dg R) (dg n)).bind fun t139 => ((ashlarref01_cut.f false t139).bind fun bt142 => (if 0 ≤ (i : Int) then (if (i : Int) < ((List.replicate i 0 ++ (c : Int) :: q).length : Int) then (ashlarref01_Over.l1 k ((List.replicate i 0 ++ (c : Int) :: q).set ((i : Int) : Int).toNat (wrap64 ((rd (List.replicate i 0 ++ (c : Int) :: q) (i : Int)) + 1))) (i : Int) ab a bb (dg n) bt142.1 bt142.2) else (none)) else (none)))) else (ashlarref01_Over.l0 k (List.replicate i 0 ++ (c : Int) :: q) ((i : Int) - 1) ab a bb (dg n) false (dg R)))) sz ?_
    by_cases hge : n ≤ R
    · have hdiv : R / n = (R - n) / n + 1 := by
        have : R = (R - n) + n := by omega
        rw [this, Nat.add_div_right _ (by omega)]; simp
      have c9 : c ≤ 9 := by
        rcases Nat.lt_or_ge 9 c with h | h
        · have := Nat.mul_le_mul_right n h; omega
        · exact h
      have ih := over_l1 hn ln ab bb res i li R0 hR q K ((R - n) / n) (c + 1) (R - n) rfl (by rw [Nat.add_mul]; omega)
      obtain ⟨r, h1, h2, h3, h4⟩ := apart_ev (dg_dig R) (dg_dig n) (by omega) (by rw [dg_val, dg_val]; omega)
      rw [dg_val, dg_val] at h3
      have hcut := cut_f false h2 (by omega) (n := R - n) (by omega)
      have eg : rd (List.replicate i 0 ++ (c : Int) :: q) (i : Int) = c := by simp [rd]
      have es : (List.replicate i 0 ++ (c : Int) :: q).set i ((c + 1 : Nat) : Int) = List.replicate i 0 ++ ((c + 1 : Nat) : Int) :: q := by
        rw [List.set_append_right _ _ (by simp)]; simp
      have ew2 : wrap64 ((c : Int) + 1) = ((c + 1 : Nat) : Int) := wrap64_in (by omega) (by omega)
      have hlen : (i : Int) < ((List.replicate i 0 ++ (c : Int) :: q).length : Int) := by simp; omega
      have key := Frm.bind (f := fun k t139 => ((ashlarref01_cut.f false t139).bind fun bt142 => (if 0 ≤ (i : Int) then (if (i : Int) < ((List.replicate i 0 ++ (c : Int) :: q).length : Int) then (ashlarref01_Over.l1 k ((List.replicate i 0 ++ (c : Int) :: q).set ((i : Int) : Int).toNat (wrap64 ((rd (List.replicate i 0 ++ (c : Int) :: q) (i : Int)) + 1))) (i : Int) ab a bb (dg n) bt142.1 bt142.2) else (none)) else (none)))) h1 (r := res) (by
        simp only [hcut, Option.bind_some, eg, ew2, es, Int.toNat_natCast, Bool.false_and]
        refine ih.congr fun k => ?_
        rw [if_pos (by omega), if_pos hlen])
      refine key.congr fun k => ?_
      rw [if_pos (ge_cmp.2 (by omega))]
    · have hc' : c = R0 / n ∧ R = R0 % n := by
        have : R0 / n = c := Nat.div_eq_of_lt_le (by omega) (by rw [Nat.add_mul]; omega)
        refine ⟨this.symm, ?_⟩
        have := Nat.div_add_mod R0 n
        have e : n * (R0 / n) = c * n := by rw [Nat.mul_comm]; congr 1
        omega
      obtain ⟨rfl, rfl⟩ := hc'
      refine K.congr fun k => ?_
      rw [if_neg (fun h => by have := ge_cmp.1 h; omega)]
termination_by m => m
decreasing_by omega

theorem over_l0 {a : List Int} (ha : Dig a) (la : a.length ≤ 1000) {n : Nat} (hn : n ≠ 0) (ln : (dg n).length ≤ 1000) (ab bb : Bool) : ∀ (i : Nat) (q : List Int), i + q.length = a.length → Dig q → val q = val (a.drop i) / n →
    Frm (fun k => ashlarref01_Over.l0 k (List.replicate i 0 ++ q) ((i : Int) - 1) ab a bb (dg n) false (dg ((val (a.drop i)).toNat % n))) (false, dg ((val a).toNat / n), false, dg ((val a).toNat % n))
  | 0, q, hq, hd, hv => by
    have h0 := val_nonneg ha
    have hcut := cut_f false hd (by omega) (n := (val a).toNat / n) (by rw [hv, List.drop_zero]; have := Int.toNat_of_nonneg h0; rw [Int.natCast_ediv, this])
    apply Frm.succ
    refine Frm.const fun k => ?_
    simp only [ashlarref01_Over.l0, List.replicate_zero, List.nil_append, List.drop_zero]
    rw [if_neg (by omega), hcut]; rfl
  | i + 1, q, hq, hd, hv => by
    have hlt : i < a.length := by omega
    have h0 := val_nonneg (dig_drop ha (i + 1))
    have e1 := val_drop a i
    have d1 := getD_dig ha i
    generalize hA : val (a.drop (i + 1)) = A at *
    generalize hx : a.getD i 0 = x at *
    obtain ⟨A, rfl⟩ := Int.eq_ofNat_of_zero_le h0
    obtain ⟨x, rfl⟩ := Int.eq_ofNat_of_zero_le d1.1
    have eB : val (a.drop i) = ((x + 10 * A : Nat) : Int) := by rw [e1]; omega
    have hmod : (x + 10 * A) % n = (x + 10 * (A % n)) % n := by
      rw [Nat.add_mod, Nat.mul_mod, Nat.add_mod x (10 * (A % n)), Nat.mul_mod 10 (A % n), Nat.mod_mod]
    have hdv : (x + 10 * A) / n = (x + 10 * (A % n)) / n + 10 * (A / n) := by
      have h := Nat.div_add_mod A n
      have : x + 10 * A = (x + 10 * (A % n)) + n * (10 * (A / n)) := by
        have : 10 * A = 10 * (n * (A / n) + A % n) := by rw [h]
        rw [this]; grind
      rw [this, Nat.add_mul_div_left _ _ (by omega)]
    have hml : A % n < n := Nat.mod_lt _ (by omega)
    have hR : x + 10 * (A % n) < 10 * n := by omega
    have hc9 : (x + 10 * (A % n)) / n ≤ 9 := by
      have : (x + 10 * (A % n)) / n < 10 := (Nat.div_lt_iff_lt_mul (by omega)).2 (by omega)
      omega
    have ih := over_l0 ha la hn ln ab bb i ((((x + 10 * (A % n)) / n : Nat) : Int) :: q) (by simp; omega) (dig_cons.2 ⟨⟨Int.natCast_nonneg _, by exact_mod_cast hc9⟩, hd⟩) (by
      simp only [val, hv, eB, hdv, Int.natCast_ediv, Int.natCast_add, Int.natCast_mul]
      have : ((((x + 10 * A : Nat) : Int)) / (n : Int)) = (((x + 10 * A) / n : Nat) : Int) := by rw [Int.natCast_ediv]
      have e2 := congrArg (fun z : Nat => (z : Int)) hdv
      simp only [Int.natCast_ediv, Int.natCast_add, Int.natCast_mul] at e2
      exact e2.symm)
    rw [eB, Int.toNat_natCast, hmod] at ih
    have in1 := over_l1 (a := a) hn ln ab bb _ i (by omega) (x + 10 * (A % n)) hR q ih _ 0 (x + 10 * (A % n)) rfl (by omega)
    have hdl : (dg (A % n)).length ≤ 1000 := by
      have h1 := val_lt (dg_dig n)
      rw [dg_val] at h1
      have : ((A % n : Nat) : Int) < ((10 ^ (dg n).length : Nat) : Int) := by rw [Int.natCast_pow]; exact Int.lt_trans (by omega) h1
      have := dg_len (n := A % n) (k := (dg n).length) (by omega)
      omega
    have hcut := cut_f false (l := (x : Int) :: dg (A % n)) (dig_cons.2 ⟨by omega, dg_dig _⟩) (by simp; omega) (n := x + 10 * (A % n)) (by simp only [val, dg_val]; omega)
    have ei : ((i + 1 : Nat) : Int) - 1 = (i : Int) := by omega
    have er : rd a (i : Int) = (x : Int) := by rw [← hx]; simp [rd]
    have erep : List.replicate (i + 1) (0 : Int) ++ q = List.replicate i 0 ++ ((0 : Nat) : Int) :: q := by
      rw [List.replicate_succ', List.append_assoc]; rfl
    apply Frm.succ
    refine in1.congr fun k => ?_
    simp only [ashlarref01_Over.l0, ei, Int.toNat_natCast]
    rw [if_pos (by omega), if_pos (by omega), if_pos (by omega)]
    simp only [er, Option.bind_some, List.singleton_append, hcut, Bool.false_and]
    rw [if_pos (by simp; omega), erep]

theorem over_ev {a : List Int} (ha : Dig a) (la : a.length ≤ 1000) {n : Nat} (hn : n ≠ 0) (ln : (dg n).length ≤ 1000) (ab bb : Bool) :
    Frm (fun k => ashlarref01_Over.f k ab a bb (dg n)) (false, dg ((val a).toNat / n), false, dg ((val a).toNat % n)) := by
  have := over_l0 ha la hn ln ab bb a.length [] (by simp) dig_nil (by rw [val_beyond (Nat.le_refl _)]; simp [val])
  refine this.congr fun k => ?_
  unfold ashlarref01_Over.f
  rw [if_pos (by omega), if_pos (by simp; omega), wrap64_in (by omega) (by omega), val_beyond (Nat.le_refl _)]
  simp [dg_zero]

theorem over_dg {m n : Nat} (hm : (dg m).length ≤ 1000) (hn : n ≠ 0) (ln : (dg n).length ≤ 1000) (ab bb : Bool) :
    Frm (fun k => ashlarref01_Over.f k ab (dg m) bb (dg n)) (false, dg (m / n), false, dg (m % n)) := by
  have := over_ev (dg_dig m) hm hn ln ab bb
  rwa [dg_val, Int.toNat_natCast] at this

theorem len_le {m n : Nat} {c : Nat} (h : m ≤ n) (hn : (dg n).length ≤ c) : (dg m).length ≤ c := by
  have h1 := val_lt (dg_dig n)
  rw [dg_val] at h1
  have : ((m : Nat) : Int) < ((10 ^ (dg n).length : Nat) : Int) := by rw [Int.natCast_pow]; exact Int.lt_of_le_of_lt (by omega) h1
  have := dg_len (n := m) (k := (dg n).length) (by omega)
  omega

theorem gcd_l0 : ∀ (n m : Nat), (dg m).length ≤ 1000 → (dg n).length ≤ 1000 → Frm (fun k => ashlarref01_Gcd.l0 k false (dg m) false (dg n)) (false, dg (Nat.gcd m n))
  | n, m, hm, hl => by
    by_cases h0 : n = 0
    · subst h0
      apply Frm.succ
      refine Frm.const fun k => ?_
      simp only [ashlarref01_Gcd.l0]
      rw [if_neg (by rw [dg_zero]; simp), Nat.gcd_zero_right]
    · have hlt : m % n < n := Nat.mod_lt _ (by omega)
      have ih := gcd_l0 (m % n) n hl (len_le (Nat.le_of_lt hlt) hl)
      have eg : Nat.gcd n (m % n) = Nat.gcd m n := by rw [Nat.gcd_comm n, ← Nat.gcd_rec, Nat.gcd_comm]
      rw [eg] at ih
      have ho := over_dg hm h0 hl false false
      apply Frm.succ
      have key := Frm.bind (f := fun k (bt153 : Bool × List Int × Bool × List Int) => ashlarref01_Gcd.l0 k false (dg n) bt153.2.2.1 bt153.2.2.2) ho ih
      refine key.congr fun k => ?_
      simp only [ashlarref01_Gcd.l0]
      rw [if_pos (by have := dg_len0 (n := n); omega)]
termination_by n => n
decreasing_by exact Nat.mod_lt _ (by omega)

theorem gcd_dg {m n : Nat} (hm : (dg m).length ≤ 1000) (hn : (dg n).length ≤ 1000) (ab bb : Bool) : Frm (fun k => ashlarref01_Gcd.f k ab (dg m) bb (dg n)) (false, dg (Nat.gcd m n)) := by
  unfold ashlarref01_Gcd.f
  exact gcd_l0 n m hm hn

theorem val_drop_le {l : List Int} (h : Dig l) : ∀ i : Nat, val (l.drop i) ≤ val l
  | 0 => by simp
  | i + 1 => by
    have := val_drop_le h i
    have e := val_drop l i
    have := getD_dig h i
    have := val_nonneg (dig_drop h (i + 1))
    omega

theorem tdiv10 {d : Int} (h : 0 ≤ d) (h2 : d ≤ 9) : Int.tdiv (-9223372036854775808 + d) 10 = -((9223372036854775808 - d) / 10) := by
  have : -9223372036854775808 + d = -(9223372036854775808 - d) := by omega
  rw [this, Int.neg_tdiv, Int.tdiv_eq_ediv_of_nonneg (by omega)]

theorem int_l0 {l : List Int} (hl : Dig l) (d : Bool) (ll : l.length ≤ 1000) : ∀ i : Nat, i ≤ l.length → val (l.drop i) ≤ 9223372036854775808 → Frm (fun k => ashlarref01_Int.l0 k (-(val (l.drop i))) ((i : Int) - 1) d l) (fitp (if d = true then -(val l) else val l))
  | 0, _, h => by
    have h0 := val_nonneg hl
    rw [List.drop_zero] at h ⊢
    apply Frm.succ
    refine Frm.const fun k => ?_
    simp only [ashlarref01_Int.l0]
    rw [if_neg (by omega)]
    cases d
    · simp only [Bool.false_eq_true, if_false]
      unfold fitp
      by_cases c : val l = 9223372036854775808
      · rw [if_pos (by omega), if_neg (by omega)]
      · rw [if_neg (by omega), if_pos (by omega), wrap64_in (by omega) (by omega), Int.neg_neg]
    · simp only [if_true]
      unfold fitp
      rw [if_pos (by omega)]
  | i + 1, hi, h => by
    have h0 := val_nonneg (dig_drop hl (i + 1))
    have e := val_drop l i
    have dd := getD_dig hl i
    have le := val_drop_le hl i
    have ei : ((i + 1 : Nat) : Int) - 1 = (i : Int) := by omega
    have er : rd l (i : Int) = l.getD i 0 := by simp [rd]
    have ew : wrap64 ((i : Int) - 1) = (i : Int) - 1 := wrap64_in (by omega) (by omega)
    have w1 : wrap64 (-9223372036854775808 + l.getD i 0) = -9223372036854775808 + l.getD i 0 := wrap64_in (by omega) (by omega)
    apply Frm.succ
    simp only [ashlarref01_Int.l0, ei, er, ew, w1, tdiv10 dd.1 dd.2]
    generalize hg : l.getD i 0 = g at *
    generalize hA : val (l.drop (i + 1)) = A at *
    have w2 : wrap64 (-((9223372036854775808 - g) / 10)) = -((9223372036854775808 - g) / 10) := wrap64_in (by omega) (by omega)
    rw [w2]
    by_cases c : -A < -((9223372036854775808 - g) / 10)
    · refine Frm.const fun k => ?_
      rw [if_pos (by omega), if_pos (by omega), if_pos (by omega), if_pos c]
      unfold fitp
      cases d
      · rw [if_neg]; simp only [Bool.false_eq_true, if_false]; omega
      · rw [if_neg]; simp only [if_true]; omega
    · have ih := int_l0 hl d ll i (by omega) (by omega)
      refine ih.congr fun k => ?_
      rw [if_pos (by omega), if_pos (by omega), if_pos (by omega), if_neg c, wrap64_in (x := -A * 10) (by omega) (by omega), wrap64_in (by omega) (by omega), e]
      congr 1; omega

theorem int_dg (d : Bool) {m : Nat} (hm : (dg m).length ≤ 1000) : Frm (fun k => ashlarref01_Int.f k d (dg m)) (fitp (if d = true then -(m : Int) else m)) := by
  have := int_l0 (dg_dig m) d hm (dg m).length (Nat.le_refl _) (by rw [val_beyond (Nat.le_refl _)]; omega)
  rw [val_beyond (Nat.le_refl _), dg_val] at this
  refine this.congr fun k => ?_
  unfold ashlarref01_Int.f
  rw [wrap64_in (by omega) (by omega)]; rfl

theorem of_l0 (d : Bool) : ∀ (m : Nat) (x : Int) (out : List Int), In64 x → x.natAbs = m → out.length + (dg m).length ≤ 1000 → Frm (fun k => ashlarref01_Of.l0 k x d out) (d, out ++ dg m)
  | m, x, out, hx, hm, hl => by
    obtain ⟨x1, x2⟩ := hx
    by_cases h0 : x = 0
    · subst h0
      have : m = 0 := by omega
      subst this
      apply Frm.succ
      refine Frm.const fun k => ?_
      simp only [ashlarref01_Of.l0]
      rw [if_pos trivial, dg_zero, List.append_nil]
    · have hm0 : m ≠ 0 := by omega
      rw [dg_pos hm0] at hl ⊢
      simp only [List.length_cons] at hl
      by_cases hs : 0 ≤ x
      · have e1 : Int.tmod x 10 = x % 10 := Int.tmod_eq_emod_of_nonneg hs
        have e2 : Int.tdiv x 10 = x / 10 := Int.tdiv_eq_ediv_of_nonneg hs
        have ih := of_l0 d (m / 10) (x / 10) (out ++ [((m % 10 : Nat) : Int)]) ⟨by omega, by omega⟩ (by omega) (by simp; omega)
        apply Frm.succ
        rw [List.append_assoc, List.singleton_append] at ih
        refine ih.congr fun k => ?_
        simp only [ashlarref01_Of.l0, e1, e2]
        have e3 : x % 10 = ((m % 10 : Nat) : Int) := by omega
        rw [if_neg h0, if_neg (by omega), if_pos (by omega), wrap64_in (by omega) (by omega), e3]
      · obtain ⟨y, rfl⟩ : ∃ y, x = -y := ⟨-x, by omega⟩
        have e1 : Int.tmod (-y) 10 = -(y % 10) := by rw [Int.neg_tmod, Int.tmod_eq_emod_of_nonneg (by omega)]
        have e2 : Int.tdiv (-y) 10 = -(y / 10) := by rw [Int.neg_tdiv, Int.tdiv_eq_ediv_of_nonneg (by omega)]
        have ih := of_l0 d (m / 10) (-(y / 10)) (out ++ [((m % 10 : Nat) : Int)]) ⟨by omega, by omega⟩ (by omega) (by simp; omega)
        apply Frm.succ
        rw [List.append_assoc, List.singleton_append] at ih
        refine ih.congr fun k => ?_
        simp only [ashlarref01_Of.l0, e1, e2]
        have e3 : y % 10 = ((m % 10 : Nat) : Int) := by omega
        rw [if_neg h0]
        by_cases hz : -(y % 10) < 0
        · rw [if_pos hz, if_pos (by omega), wrap64_in (x := -(y / 10)) (by omega) (by omega), Int.neg_neg, wrap64_in (by omega) (by omega), e3]
        · have hz' : -(y % 10) = ((m % 10 : Nat) : Int) := by omega
          rw [if_neg hz, if_pos (by omega), wrap64_in (by omega) (by omega), hz']
termination_by m => m
decreasing_by all_goals omega

theorem len_in {x : Int} (h : In64 x) : (dg x.natAbs).length ≤ 19 := by
  obtain ⟨h1, h2⟩ := h
  exact dg_len (by omega)

theorem of_dg {x : Int} (h : In64 x) : Frm (fun k => ashlarref01_Of.f k x) (decide (x < 0), dg x.natAbs) := by
  have hl := len_in h
  have := of_l0 (decide (x < 0)) x.natAbs x [] h rfl (by simp; omega)
  simpa [ashlarref01_Of.f] using this

theorem make_dg {p q : Int} (hp : (dg p.natAbs).length ≤ 1000) (hq : (dg q.natAbs).length ≤ 1000) :
    Frm (fun k => ashlarref01_Make.f k (decide (p < 0)) (dg p.natAbs) (decide (q < 0)) (dg q.natAbs)) (mk p q) := by
  unfold ashlarref01_Make.f
  by_cases h0 : q = 0
  · subst h0
    refine Frm.const fun k => ?_
    rw [if_pos (dg_len0.2 (by simp))]; simp [mk]
  · have hn : q.natAbs ≠ 0 := by omega
    have hg : Nat.gcd p.natAbs q.natAbs ≠ 0 := by
      intro h; exact hn (Nat.eq_zero_of_gcd_eq_zero_right h)
    have hgl : (dg (Nat.gcd p.natAbs q.natAbs)).length ≤ 1000 := len_le (Nat.le_of_dvd (by omega) (Nat.gcd_dvd_right _ _)) hq
    have x1 : (dg (p.natAbs / Nat.gcd p.natAbs q.natAbs)).length ≤ 1000 := len_le (Nat.div_le_self _ _) hp
    have y1 : (dg (q.natAbs / Nat.gcd p.natAbs q.natAbs)).length ≤ 1000 := len_le (Nat.div_le_self _ _) hq
    have hcut := cut_f (decide (p < 0) != decide (q < 0)) (dg_dig (p.natAbs / Nat.gcd p.natAbs q.natAbs)) (by omega) (dg_val _)
    have i1 := int_dg ((decide (p < 0) != decide (q < 0)) && decide (p.natAbs / Nat.gcd p.natAbs q.natAbs ≠ 0)) x1
    have i2 := int_dg false y1
    have eP : (if ((decide (p < 0) != decide (q < 0)) && decide (p.natAbs / Nat.gcd p.natAbs q.natAbs ≠ 0)) = true then -((p.natAbs / Nat.gcd p.natAbs q.natAbs : Nat) : Int) else ((p.natAbs / Nat.gcd p.natAbs q.natAbs : Nat) : Int)) = lowP p q := by
      have e1 : sz p / (Int.gcd p q : Int) = ((p.natAbs / Nat.gcd p.natAbs q.natAbs : Nat) : Int) := by rw [sz_abs, Int.natCast_ediv]; rfl
      unfold lowP
      rw [e1]
      show _ = if (decide (p < 0) != decide (q < 0)) = true then _ else _
      cases hs : (decide (p < 0) != decide (q < 0))
      · simp
      · by_cases hz : p.natAbs / Nat.gcd p.natAbs q.natAbs = 0
        · rw [hz]; simp
        · rw [decide_eq_true hz]; rfl
    have eQ : (if false = true then -((q.natAbs / Nat.gcd p.natAbs q.natAbs : Nat) : Int) else ((q.natAbs / Nat.gcd p.natAbs q.natAbs : Nat) : Int)) = lowQ p q := by
      unfold lowQ
      rw [sz_abs, if_neg (by decide), Int.natCast_ediv]; rfl
    rw [eP] at i1
    rw [eQ] at i2
    have hl : ¬ ((dg q.natAbs).length : Int) = 0 := fun h => hn (dg_len0.1 h)
    simp only [if_neg hl]
    refine Frm.bind (gcd_dg hp hq _ _) ?_
    refine Frm.bind (over_dg hp hg hgl _ _) ?_
    refine Frm.bind (over_dg hq hg hgl _ _) ?_
    simp only [hcut, Option.bind_some]
    refine Frm.bind i1 ?_
    refine Frm.bind i2 ?_
    refine Frm.const fun k => ?_
    unfold mk fitp In64
    rw [if_neg h0]
    by_cases a : -9223372036854775808 ≤ lowP p q ∧ lowP p q < 9223372036854775808 <;> by_cases b : -9223372036854775808 ≤ lowQ p q ∧ lowQ p q < 9223372036854775808 <;> simp [a, b]

end Go.Proofs.Ytnggikhpnophgaa.DigNumMakes
