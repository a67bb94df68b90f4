import Derived.Test.YtbpjnkeilhfajaaGreatRfG
import Derived.Test.YtbpjnkeilhfajaaGreatLinW
import Derived.Test.YtbpjnkeilhfajaaGreatLnZ
import Derived.Test.YtbpjnkeilhfajaaGreatLnS3
import Derived.Test.YtbpjnkeilhfajaaGreatLnApp
import Derived.Test.YtbpjnkeilhfajaaGreatLnV
import Derived.Laws.Rows
section
/- ashlarref12.Some, walked: it tells whether a point of the box makes the rows true. -/
namespace Go.Proofs.YtbpjnkeilhfajaaGreat.Rw
open Go.RowKit Go.Proofs.YtbpjnkeilhfajaaGreat.Given Go.Proofs.YtbpjnkeilhfajaaGreatW.PrintWords Go.Proofs.YtbpjnkeilhfajaaGreatW.PrintLast Go.Proofs.YtbpjnkeilhfajaaGreat.Num Go.Proofs.YtbpjnkeilhfajaaGreat.Ln Go.Proofs.YtbpjnkeilhfajaaGreat.Lin
set_option linter.unusedVariables false
set_option linter.unusedSimpArgs false
section
variable {l : List S40} {n far side : Nat}
def okN (n far N : Nat) (r : S40) : Prop := sumI (fun k => r.f0.getD k 0 * nthP (2 * far + 1) far N k) n + r.f1 ≤ 0
def Small9 (n : Nat) (r : S40) : Prop := r.f0.length = n ∧ (∀ x, x ∈ r.f0 → x.natAbs ≤ 9) ∧ r.f1.natAbs ≤ 9
theorem good_pt (N : Nat) : (∀ r, r ∈ l → okN n far N r) ↔ Pt (l.map toZ) n (fun k => (nthP (2 * far + 1) far N k : Rat)) := by
 rw [pt_mem]
 constructor
 ·intro h r hr
  obtain ⟨s, hs, rfl⟩ := List.mem_map.1 hr
  have := h s hs
  unfold okN at this
  rw [show (toZ s).1 = s.f0 from rfl, show (toZ s).2 = s.f1 from rfl, sumN_int, ← Rat.intCast_add]
  exact_mod_cast this
 ·intro h r hr
  have := h (toZ r) (List.mem_map_of_mem hr)
  rw [show (toZ r).1 = r.f0 from rfl, show (toZ r).2 = r.f1 from rfl, sumN_int, ← Rat.intCast_add] at this
  unfold okN
  exact_mod_cast this
theorem nthP_le (hf : far ≤ 5) (N k : Nat) : -5 ≤ nthP (2 * far + 1) far N k ∧ nthP (2 * far + 1) far N k ≤ 5 := by
 have := Nat.mod_lt (N / (2 * far + 1) ^ k) (show 0 < 2 * far + 1 by omega)
 unfold nthP
 omega
theorem prod45 {a b : Int} (ha : a.natAbs ≤ 9) (hb : -5 ≤ b ∧ b ≤ 5) : -45 ≤ a * b ∧ a * b ≤ 45 := by
 have h1 : (a * b).natAbs ≤ 9 * 5 := by rw [Int.natAbs_mul]; exact Nat.mul_le_mul ha (by omega)
 omega
theorem sum_le {r : S40} (hr : Small9 n r) (hf : far ≤ 5) (N : Nat) : ∀ k, k ≤ n → -45 * (k : Int) ≤ sumI (fun k => r.f0.getD k 0 * nthP (2 * far + 1) far N k) k ∧ sumI (fun k => r.f0.getD k 0 * nthP (2 * far + 1) far N k) k ≤ 45 * (k : Int)
 | 0, _ => by simp [sumI]
 | k + 1, hk => by
  have ih := sum_le hr hf N k (by omega)
  have hm : (r.f0.getD k 0).natAbs ≤ 9 := by
   rw [List.getD_eq_getElem?_getD, List.getElem?_eq_getElem (show k < r.f0.length by rw [hr.1]; omega)]
   exact hr.2.1 _ (List.getElem_mem _)
  have := prod45 hm (nthP_le hf N k)
  rw [sumI]
  omega
end
theorem infoI3 : (Tryz.prog.info? 2).map (fun i => (i.zero, i.size, i.bytes)) = some (some (.int .i64 0), 1, 8) := by kernel_rfl
theorem wpList_appI {W : World} {ops : Array Oper} {rest : List Oper} {o : Oper} {a : Act} {Q : Exit → Act → World → Prop} (hgd : o.guard = none) (s x : Operand)
  (ho : o.op = .call { callee := .builtin .append, args := #[s, x], argTypes := #[23 , 23 ] })
  (base : Nat) (y : Int) (v : Value) (l : List Int) (hs : a.eval s = v) (hown : RowI W base v l) (hx : a.eval x = .slice (some ⟨W.heap.size, 0, none⟩) 1 1) (hn : l.length < 1000000) (hbase : base ≤ W.heap.size)
  (h : ∀ v' w', Hid (RowI w' base v' (l ++ [y])) → Hid (Below base W w') → wpList Tryz.prog ops Q rest (a.put o.dst v') w') : wpList Tryz.prog ops Q (o :: rest) a (W.alloc (.cells #[.int .i64 y] 2)) := by
 have hb0 : Below W.heap.size W (W.alloc (.cells #[.int .i64 y] 2)) := (Below.refl _ _).alloc (Nat.le_refl _) _
 refine wpList_app hgd s x _ ho base 2 (.int .i64 0) 1 8 Tryz.underlying23 infoI3 rfl (by decide) v l.length (intv l) hs (pw_own_below hown hb0) ⟨W.heap.size, 0, none⟩ 1 1 [.int .i64 y] hx rfl (fun j u hj => by
   match j, hj with
   | 0, hj => cases hj; rw [Addr.add_lit]; exact blk_cell (blk_new _ _) 0
   | j + 1, hj => cases hj) (fun u hu => by rw [List.mem_singleton.1 hu]; rfl) (by unfold maxLen; omega) (by omega) (by simp; omega) (fun v' w' k1 k2 _ => h v' w' (Lib.hid ?_) (Lib.hid ?_))
 ·unfold RowI
  rw [List.length_append, List.length_singleton, show intv (l ++ [y]) = intv l ++ [.int .i64 y] by simp [intv]]
  exact k1
 ·refine Below.grown (hb0.mono hbase) k2 (by simp; omega) (fun k hk => ?_)
  obtain ⟨_, _, hg⟩ := own_blk_ty hown hk
  exact hg
theorem rowI_read {w : World} {base : Nat} {v : Value} {l : List Int} (h : RowI w base v l) : ∃ A c, v = .slice A l.length c ∧ (Kd.int .i64).C w A l.length l := by
 obtain ⟨hl, hv⟩ := id h
 rcases hv with ⟨rfl, h0⟩ | ⟨g', cap, cur, rfl, h1, hb, h2⟩
 ·rw [← h0]
  obtain ⟨_, c1, c2⟩ := Kd.R_reads' (RowI.toR h)
  exact ⟨_, _, rfl, by simpa [h0] using c2⟩
 ·obtain ⟨_, c1, c2⟩ := Kd.R_reads' (RowI.toR h)
  exact ⟨_, _, rfl, c2⟩
theorem tmod_nat (a b : Nat) : Int.tmod (a : Int) (b : Int) = ((a % b : Nat) : Int) := rfl
theorem tdiv_nat (a b : Nat) (h : a < 9223372036854775808) : wrap64 (Int.tdiv (a : Int) (b : Int)) = ((a / b : Nat) : Int) := by
 have h1 : Int.tdiv (a : Int) (b : Int) = ((a / b : Nat) : Int) := rfl
 have h2 : a / b ≤ a := Nat.div_le_self a b
 rw [h1]
 generalize a / b = q at h2
 unfold wrap64
 omega
theorem pow_le {side n : Nat} (hs : side ≤ 11) (hn : n ≤ 3) : side ^ n ≤ 1331 := by
 have h1 : side ^ n ≤ 11 ^ n := Nat.pow_le_pow_left hs n
 have h2 : 11 ^ n ≤ 11 ^ 3 := Nat.pow_le_pow_right (by decide) hn
 omega
set_option maxHeartbeats 16000000 in
set_option maxRecDepth 100000 in
theorem some12_any (l : List S40) (A : Option Addr) (c n far : Nat) (w : World) (hC : Kd.C k40 w A l.length l) (hn : n ≤ 3) (hf : far ≤ 5) (hl : l.length ≤ 1000) (hs : ∀ r, r ∈ l → Small9 n r) :
  ∃ b, (b = true ↔ SomeB (l.map toZ) n far) ∧ Calls Tryz.prog 32 #[.slice A l.length c, .int .i64 n, .int .i64 far] w fun e w' => e = .returned (.bool b) ∧ Below w.heap.size w w' := by
 obtain ⟨b, hb⟩ : ∃ b : Bool, (b = true ↔ ∃ N, N < (2 * far + 1) ^ n ∧ ∀ r, r ∈ l → okN n far N r) := by
  by_cases h : ∃ N, N < (2 * far + 1) ^ n ∧ ∀ r, r ∈ l → okN n far N r
  ·exact ⟨true, by simp [h]⟩
  ·exact ⟨false, by simp [h]⟩
 refine ⟨b, ?_, ?_⟩
 ·rw [hb]
  unfold SomeB
  rw [← some_nth]
  exact ⟨fun ⟨N, h1, h2⟩ => ⟨N, h1, (good_pt N).1 h2⟩, fun ⟨N, h1, h2⟩ => ⟨N, h1, (good_pt N).2 h2⟩⟩
 obtain ⟨side, hside⟩ : ∃ s, 2 * far + 1 = s := ⟨_, rfl⟩
 obtain ⟨m2, hm2⟩ : ∃ s, 2 * far = s := ⟨_, rfl⟩
 have hs11 : side ≤ 11 := by omega
 have w1 : wrap64 (2 * (far : Int)) = (m2 : Int) := by unfold wrap64; omega
 have w2 : wrap64 ((m2 : Int) + 1) = (side : Int) := by unfold wrap64; omega
 obtain ⟨T, hT⟩ : ∃ T, side ^ n = T := ⟨_, rfl⟩
 have hT3 : T ≤ 1331 := by rw [← hT]; exact pow_le hs11 hn
 have HC := Lib.hid hC
 have HB := Lib.hid hb
 have HS := Lib.hid hs
 have HP := Lib.hid (And.intro hside (And.intro hs11 (And.intro hT hT3)))
 have HN := Lib.hid (And.intro hn (And.intro hf hl))
 clear hC hb hs hside hs11 hT hT3 hm2 hn hf hl
 go_enter Tryz.func32, Tryz.ntmps32
 go_wp2
 simp only [w2]
 clear w1 w2
 go_loopw [8, 9] (fun v8 v9 wr => ∃ (i P : Nat), i ≤ n ∧ v8 = .int .i64 P ∧ v9 = .int .i64 i ∧ Hid (side ^ i = P) ∧ w = wr) (fun _ v9 _ => n - (intOf v9).toNat)
 case atStart => exact ⟨0, 1, Nat.zero_le _, rfl, rfl, Lib.hid (Nat.pow_zero _), rfl⟩
 case round =>
  obtain ⟨i, P, hi, rfl, rfl, hP, rfl⟩ := hrel
  by_cases hin : i < n
  ·have e1 : (i < n) = True := eq_true hin
   obtain ⟨Q, hQ⟩ : ∃ Q, P * side = Q := ⟨_, rfl⟩
   have HQ := Lib.hid (show side ^ (i + 1) = Q by rw [Nat.pow_succ, hP.out]; exact hQ)
   have hQ3 : Q ≤ 1331 := by rw [← HQ.out]; exact pow_le HP.out.2.1 (by have := HN.out.1; omega)
   have ew : wrap64 ((P : Int) * (side : Int)) = (Q : Int) := by
    have : ((P : Int) * (side : Int)) = (Q : Int) := by rw [← hQ]; exact (Int.natCast_mul P side).symm
    rw [this]; unfold wrap64; omega
   have EW := Lib.hid (wrapj (show i + 1 < 9223372036854775808 by have := HN.out.1; omega))
   have HI := Lib.hid (And.intro hi hin)
   have EWQ := Lib.hid ew
   clear hQ hQ3 hi hin hP ew
   go_wp2
   refine ⟨⟨i + 1, Q, HI.out.2, congrArg (Value.int .i64) EWQ.out, congrArg (Value.int .i64) EW.out, HQ, trivial⟩, ?_⟩
   rw [EW.out]
   simp only [intOf, Int.toNat_natCast]
   exact meas_lt HI.out.2
  ·have hin' : i = n := by omega
   subst i
   obtain rfl : P = T := by rw [← hP.out]; exact HP.out.2.2.1
   clear hin hi hP
   go_wp2
   go_loopw [10] (fun v10 wr => ∃ N : Nat, N ≤ P ∧ v10 = .int .i64 N ∧ Hid (∀ M, M < N → ¬ ∀ r, r ∈ l → okN n far M r) ∧ Hid (Below w.heap.size w wr)) (fun v10 _ => P - (intOf v10).toNat)
   case atStart => exact ⟨0, Nat.zero_le _, rfl, Lib.hid (fun M h => absurd h (Nat.not_lt_zero _)), Lib.hid (Below.refl _ _)⟩
   case round =>
    obtain ⟨N, hN, rfl, hno, HBR⟩ := hrel
    by_cases hNP : N < P
    ·have e1 : (N < P) = True := eq_true hNP
     have HNP := Lib.hid (And.intro hN hNP)
     clear hN hNP
     go_wp2
     have HI0 := Lib.hid (show RowI (wr.alloc (.cells #[] 2)) wr.heap.size (.slice (some ⟨wr.heap.size, 0, none⟩) 0 0) [] from ⟨by simp [intv], .inr ⟨wr.heap.size, 0, #[], rfl, Nat.le_refl _, blk_new _ _, Nat.le_refl _, Nat.zero_le _, by simp, by simp [intv]⟩⟩)
     have HB0 := Lib.hid (show Below wr.heap.size wr (wr.alloc (.cells #[] 2)) from (Below.refl _ _).alloc (Nat.le_refl _) _)
     have es0 : ((side : Int) = 0) = False := eq_false (by have := HP.out.1; omega)
     have es1 : (side = 0) = False := eq_false (by have := HP.out.1; omega)
     obtain ⟨wo, hwo⟩ : ∃ wo, wo = wr := ⟨_, rfl⟩
     subst hwo
     go_loopw [11, 12, 13] (fun v11 v12 v13 wr => ∃ i q : Nat, i ≤ n ∧ v12 = .int .i64 q ∧ v13 = .int .i64 i ∧ Hid (N / side ^ i = q) ∧ Hid (RowI wr wo.heap.size v11 ((List.range i).map (nthP side far N))) ∧ Hid (Below wo.heap.size wo wr)) (fun _ _ v13 _ => n - (intOf v13).toNat)
     case atStart => exact ⟨0, N, Nat.zero_le _, rfl, rfl, Lib.hid (by rw [Nat.pow_zero, Nat.div_one]), HI0, HB0⟩
     case round =>
      obtain ⟨i, q, hi, rfl, rfl, hq, HI, HBo⟩ := hrel
      by_cases hin : i < n
      ·have e2 : (i < n) = True := eq_true hin
       have hq3 : q ≤ 1331 := by have h1 := Nat.div_le_self N (side ^ i); rw [hq.out] at h1; have := HNP.out.1; have := HP.out.2.2.2; have := HP.out.2.2.1; omega
       have ez := tdiv_nat q side (by omega)
       obtain ⟨x, hx⟩ : ∃ x, nthP side far N i = x := ⟨_, rfl⟩
       have hx2 : ((q % side : Nat) : Int) - (far : Int) = x := by rw [← hx, ← hq.out]; rfl
       obtain ⟨y, hy⟩ : ∃ y, q % side = y := ⟨_, rfl⟩
       obtain ⟨z, hz⟩ : ∃ z, q / side = z := ⟨_, rfl⟩
       rw [hy] at hx2
       rw [hz] at ez
       have hy11 : y < side := by rw [← hy]; exact Nat.mod_lt _ (by have := HP.out.1; omega)
       have ex : wrap64 ((q : Int) % (side : Int) - (far : Int)) = x := by rw [show (q : Int) % (side : Int) = (y : Int) by rw [← hy]; rfl, hx2]; have := HP.out.2.1; have := HN.out.2.1; unfold wrap64; omega
       have EX := Lib.hid ex
       have EZ := Lib.hid (show wrap64 ((q : Int) / (side : Int)) = (z : Int) from ez)
       have HZ := Lib.hid (show N / side ^ (i + 1) = z by rw [Nat.pow_succ, ← Nat.div_div_eq_div_mul, hq.out]; exact hz)
       have HX := Lib.hid hx
       have EW := Lib.hid (wrapj (show i + 1 < 9223372036854775808 by have := HN.out.1; omega))
       have HII := Lib.hid (And.intro hi hin)
       have hLn : ((List.range i).map (nthP side far N)).length < 1000000 := by rw [List.length_map, List.length_range]; have := HN.out.1; omega
       have HLn := Lib.hid hLn
       clear hq hq3 hx hx2 hy hz hy11 hi hin hLn ez
       go_wp2_with (at_builtin; refine wpList_appI rfl (.tmp 41) (.tmp 47) rfl wo.heap.size x _ _ rfl HI.out rfl HLn.out HBo.out.size ?_; intro v' w' HI1 HB1)
       refine ⟨⟨i + 1, z, HII.out.2, congrArg (Value.int .i64) EZ.out, congrArg (Value.int .i64) EW.out, HZ, Lib.hid (by rw [List.range_succ, List.map_append, List.map_singleton, HX.out]; exact HI1.out), Lib.hid (HBo.out.trans HB1.out)⟩, ?_⟩
       rw [EW.out]
       simp only [intOf, Int.toNat_natCast]
       exact meas_lt HII.out.2
      ·have hin' : i = n := by omega
       subst i
       clear hin hi
       go_wp2
       obtain ⟨p, hp⟩ : ∃ p, (List.range n).map (nthP side far N) = p := ⟨_, rfl⟩
       rw [hp] at HI
       have hpl : p.length = n := by rw [← hp, List.length_map, List.length_range]
       have hpg : ∀ k (hk : k < p.length), p[k] = nthP (2 * far + 1) far N k := by
        intro k hk
        rw [HP.out.1]
        subst hp
        simp
       obtain ⟨A1, c1, rfl, hC1⟩ := rowI_read HI.out
       have HPL := Lib.hid (And.intro hpl hpg)
       have HC1 := Lib.hid hC1
       have HB3 := Lib.hid (HBR.out.trans (HBo.out.mono HBR.out.size))
       have EWN := Lib.hid (wrapj (show N + 1 < 9223372036854775808 by have := HNP.out.2; have := HP.out.2.2.2; omega))
       rw [hpl]
       obtain ⟨w3, hw3⟩ : ∃ w3, w3 = wr := ⟨_, rfl⟩
       subst hw3
       clear HI HBo HI0 HB0 hp hpl hpg hC1 hq
       go_wp2
       have HG0 : Hid ((true = true → ∀ r, r ∈ l.take 0 → okN n far N r) ∧ (true = false → ∃ r, r ∈ l ∧ ¬ okN n far N r)) := Lib.hid (And.intro (fun _ r hr => by rw [List.take_zero] at hr; cases hr) (fun h => by cases h))
       go_loopw [14, 15] (fun v14 v15 wr => ∃ (g : Bool) (i : Nat), i ≤ l.length ∧ v14 = .bool g ∧ v15 = .int .i64 i ∧ Hid ((g = true → ∀ r, r ∈ l.take i → okN n far N r) ∧ (g = false → ∃ r, r ∈ l ∧ ¬ okN n far N r)) ∧ Hid (Below w3.heap.size w3 wr)) (fun _ v15 _ => l.length - (intOf v15).toNat)
       case atStart => exact ⟨true, 0, Nat.zero_le _, rfl, rfl, HG0, Lib.hid (Below.refl _ _)⟩
       case round =>
        obtain ⟨g, i, hi, rfl, rfl, HG, HB4⟩ := hrel
        have HBN := Lib.hid (HB3.out.trans (HB4.out.mono HB3.out.size))
        cases g with
        | false =>
         by_cases hil : i < l.length
         ·have e2 : (i < l.length) = True := eq_true hil
          clear hi hil
          go_wp2
          refine ⟨⟨N + 1, HNP.out.2, congrArg (Value.int .i64) EWN.out, Lib.hid (fun M hM => ?_), HBN.out⟩, ?_⟩
          ·rcases Nat.lt_succ_iff_lt_or_eq.1 hM with h | rfl
           ·exact hno.out M h
           ·intro hall
            obtain ⟨r, hr, hne⟩ := HG.out.2 rfl
            exact hne (hall r hr)
          ·rw [EWN.out]
           simp only [intOf, Int.toNat_natCast]
           exact meas_lt HNP.out.2
         ·have e2 : (i < l.length) = False := eq_false hil
          clear hi hil
          go_wp2
          refine ⟨⟨N + 1, HNP.out.2, congrArg (Value.int .i64) EWN.out, Lib.hid (fun M hM => ?_), HBN.out⟩, ?_⟩
          ·rcases Nat.lt_succ_iff_lt_or_eq.1 hM with h | rfl
           ·exact hno.out M h
           ·intro hall
            obtain ⟨r, hr, hne⟩ := HG.out.2 rfl
            exact hne (hall r hr)
          ·rw [EWN.out]
           simp only [intOf, Int.toNat_natCast]
           exact meas_lt HNP.out.2
        | true =>
         by_cases hil : i < l.length
         ·have e2 : (i < l.length) = True := eq_true hil
          obtain ⟨ad, A0, c0, rfl, z0, z1, hc0, hrow⟩ := row_at HC.out hil
          have hr9 := HS.out _ (List.getElem_mem hil)
          have HT := Lib.hid (show l.take (i + 1) = l.take i ++ [l[i]] by rw [List.take_add_one, List.getElem?_eq_getElem hil]; rfl)
          have HM := Lib.hid (List.getElem_mem hil)
          obtain ⟨r, hr⟩ : ∃ r, l[i] = r := ⟨_, rfl⟩
          rw [hr] at z0 z1 hrow hr9 HT HM
          rw [hr9.1] at z0
          have q0 := kcell HBN.out z0
          have q1 := kcell HBN.out z1
          have HR9 := Lib.hid hr9
          have HROW := Lib.hid hrow
          have HII := Lib.hid (And.intro hi hil)
          have EWi := Lib.hid (wrapj (show i + 1 < 9223372036854775808 by have := HN.out.2.2; omega))
          clear hi hil hr hc0 hrow hr9
          obtain ⟨w4, hw4⟩ : ∃ w4, w4 = wr := ⟨_, rfl⟩
          subst hw4
          go_wp2
          go_loopw [16, 17] (fun v16 v17 wr => ∃ (s : Int) (k : Nat), k ≤ n ∧ v16 = .int .i64 s ∧ v17 = .int .i64 k ∧ Hid (s = r.f1 + sumI (fun k => r.f0.getD k 0 * nthP (2 * far + 1) far N k) k) ∧ Hid (Below w4.heap.size w4 wr)) (fun _ v17 _ => n - (intOf v17).toNat)
          case atStart => exact ⟨r.f1, 0, Nat.zero_le _, rfl, rfl, Lib.hid (by rw [sumI, Int.add_zero]), Lib.hid (Below.refl _ _)⟩
          case round =>
           clear q0 q1
           obtain ⟨s, k, hk, rfl, rfl, HSU, HB5⟩ := hrel
           have HBM := Lib.hid (HBN.out.trans (HB5.out.mono HBN.out.size))
           by_cases hkn : k < n
           ·have e3 : (k < n) = True := eq_true hkn
            obtain ⟨ar, rfl, s0⟩ := i64_at HROW.out (show k < r.f0.length by rw [HR9.out.1]; exact hkn)
            obtain ⟨ap, rfl, s1⟩ := i64_at HC1.out (show k < p.length by rw [HPL.out.1]; exact hkn)
            replace s0 := kcell HBM.out s0
            replace s1 := kcell (HB4.out.trans (HB5.out.mono HB4.out.size)) s1
            have q0 := kcell HBM.out z0
            have hx9 := HR9.out.2.1 _ (List.getElem_mem (show k < r.f0.length by rw [HR9.out.1]; exact hkn))
            have hy5 := nthP_le HN.out.2.1 N k
            rw [HPL.out.2] at s1
            have hsl := sum_le HR9.out HN.out.2.1 N k (by omega)
            have hk9 := HR9.out.2.2
            have HSK := HSU.out
            have hgx : r.f0.getD k 0 = r.f0[k]'(by rw [HR9.out.1]; exact hkn) := by rw [List.getD_eq_getElem?_getD, List.getElem?_eq_getElem (show k < r.f0.length by rw [HR9.out.1]; exact hkn)]; rfl
            have hsum : sumI (fun k => r.f0.getD k 0 * nthP (2 * far + 1) far N k) (k + 1) = sumI (fun k => r.f0.getD k 0 * nthP (2 * far + 1) far N k) k + r.f0.getD k 0 * nthP (2 * far + 1) far N k := rfl
            rw [hgx] at hsum
            obtain ⟨x, hx⟩ : ∃ x, r.f0[k]'(by rw [HR9.out.1]; exact hkn) = x := ⟨_, rfl⟩
            obtain ⟨y, hy⟩ : ∃ y, nthP (2 * far + 1) far N k = y := ⟨_, rfl⟩
            rw [hx] at s0 hx9 hsum
            rw [hy] at s1 hy5 hsum
            have h45 := prod45 hx9 hy5
            obtain ⟨m, hm⟩ : ∃ m, x * y = m := ⟨_, rfl⟩
            rw [hm] at h45 hsum
            have hn3 := HN.out.1
            have ew1 : IntKind.i64.wrap (x * y) = m := by rw [hm, i64_w]; unfold wrap64; omega
            have ew2 : IntKind.i64.wrap (s + m) = s + m := by rw [i64_w]; unfold wrap64; omega
            have HS1 := Lib.hid (show s + m = r.f1 + sumI (fun k => r.f0.getD k 0 * nthP (2 * far + 1) far N k) (k + 1) by rw [hsum]; omega)
            have EW1 := Lib.hid (And.intro ew1 ew2)
            have EWk := Lib.hid (wrapj (show k + 1 < 9223372036854775808 by omega))
            have HKK := Lib.hid (And.intro hk hkn)
            clear hx9 hy5 hsl hk9 HSK hgx hsum hx hy h45 hm hn3 ew1 ew2 hk hkn
            go_wp2_with fail
            obtain ⟨ew1, ew2⟩ := EW1.out
            go_quiet (fail)
            clear ew1 ew2
            go_wp2
            refine ⟨⟨s + m, k + 1, HKK.out.2, rfl, congrArg (Value.int .i64) EWk.out, HS1, Lib.hid (pw_below_drewN HB5.out _)⟩, ?_⟩
            rw [EWk.out]
            simp only [intOf, Int.toNat_natCast]
            exact meas_lt HKK.out.2
           ·have hk' : k = n := by omega
            subst k
            have e3 : (n < n) = False := eq_false (Nat.lt_irrefl _)
            have HB6 := Lib.hid (HB4.out.trans (HB5.out.mono HB4.out.size))
            by_cases h0 : s ≤ 0
            ·have e4 : (s ≤ 0) = True := eq_true h0
             have HOK := Lib.hid (show okN n far N r by unfold okN; have := HSU.out; omega)
             clear h0 hk hkn
             go_wp2
             refine ⟨⟨true, i + 1, HII.out.2, rfl, congrArg (Value.int .i64) EWi.out, Lib.hid ⟨fun _ r' hr' => ?_, fun h => (by cases h)⟩, HB6⟩, ?_⟩
             ·rw [HT.out] at hr'
              rcases List.mem_append.1 hr' with h | h
              ·exact HG.out.1 (by trivial) r' h
              ·rw [List.mem_singleton.1 h]; exact HOK.out
             ·rw [EWi.out]
              simp only [intOf, Int.toNat_natCast]
              exact meas_lt HII.out.2
            ·have e4 : (s ≤ 0) = False := eq_false h0
             have HOK := Lib.hid (show ¬ okN n far N r by unfold okN; have := HSU.out; omega)
             clear h0 hk hkn
             go_wp2
             refine ⟨⟨false, i + 1, HII.out.2, rfl, congrArg (Value.int .i64) EWi.out, Lib.hid ⟨fun h => (by cases h), fun _ => ⟨r, HM.out, HOK.out⟩⟩, HB6⟩, ?_⟩
             rw [EWi.out]
             simp only [intOf, Int.toNat_natCast]
             exact meas_lt HII.out.2
         ·have hi' : i = l.length := by omega
          subst i
          have e2 : (l.length < l.length) = False := eq_false (Nat.lt_irrefl _)
          have hbt : b = true := by
           rw [HB.out]
           refine ⟨N, by rw [HP.out.1, HP.out.2.2.1]; exact HNP.out.2, fun r hr => HG.out.1 rfl r ?_⟩
           rw [List.take_length]; exact hr
          subst hbt
          clear hi hil
          go_wp2
          go_ret
          exact ⟨rfl, HBN.out⟩
    ·obtain rfl : N = P := by omega
     have hf : b = false := by
      cases b with
      | false => rfl
      | true =>
       obtain ⟨M, hM, hg⟩ := HB.out.1 rfl
       rw [HP.out.1, HP.out.2.2.1] at hM
       exact (hno.out M hM hg).elim
     subst hf
     clear hNP hN
     go_wp2
     go_ret
     exact ⟨rfl, HBR.out⟩
end Go.Proofs.YtbpjnkeilhfajaaGreat.Rw
end

section
/- Rows of rows of the call's own: appended to; what a law's small answers. -/
namespace Go.Proofs.YtbpjnkeilhfajaaGreat.Rw
open Go.RowKit Go.Proofs.YtbpjnkeilhfajaaGreat.Given Go.Proofs.YtbpjnkeilhfajaaGreatW.PrintWords Go.Proofs.YtbpjnkeilhfajaaGreatW.PrintLast Go.Proofs.YtbpjnkeilhfajaaGreat.Num Go.Proofs.YtbpjnkeilhfajaaGreat.Ln Go.Proofs.YtbpjnkeilhfajaaGreat.Lin
set_option linter.unusedVariables false
set_option linter.unusedSimpArgs false
def Alike (w W : World) : Prop := ∀ (k : Nat) (cur : Array Value), w.heap[k]? = some (Obj.cells cur 2 (0, 0)) → W.heap[k]? = some (Obj.cells cur 2 (0, 0))
theorem Alike.refl (w : World) : Alike w w := fun _ _ h => h
theorem Alike.below {w w1 : World} (hb : Below w.heap.size w w1) : Alike w w1 := fun k cur h => (hb.block k (blk_lt h)).trans h
theorem Alike.trans {w w1 W : World} (h1 : Alike w w1) (h2 : Alike w1 W) : Alike w W := fun k cur h => h2 k cur (h1 k cur h)
theorem Alike.grown {w w1 : World} {base : Nat} {e : TypeId} {size n : Nat} {v : Value} {xs : List Value} (hg : w.grownBy w1 v.ownBlock) (ho : w.ownsRow base e size v n xs) (hne : e ≠ 2) : Alike w w1 := fun k cur h => (hg.block k (blk_lt h) (fun e' => by
 obtain ⟨c, hc, _⟩ := own_blk_ty ho e'.symm
 exact blk_ne hc h hne rfl)).trans h
structure RowsO (w : World) (base : Nat) (v : Value) (xs : List S40) (raws : List Value) : Prop where
 own : w.ownsRow base 40 2 v xs.length raws
 one : ∀ u, u ∈ raws → u.oneCell' = true
 enc : ∀ W, Alike w W → Enc k40 W xs raws
theorem RowsO.below {w w1 : World} {base : Nat} {v : Value} {xs : List S40} {raws : List Value} (h : RowsO w base v xs raws) (hb : Below w.heap.size w w1) : RowsO w1 base v xs raws :=
 ⟨pw_own_below h.own hb, h.one, fun W hW => h.enc W ((Alike.below hb).trans hW)⟩
theorem RowsO.bk {w : World} {base : Nat} {v : Value} {xs : List S40} {raws : List Value} (h : RowsO w base v xs raws) {k : Nat} (hk : v.ownBlock = some k) : base ≤ k ∧ k < w.heap.size := by
 obtain ⟨c, hc, hg⟩ := own_blk_ty h.own hk
 exact ⟨hg, blk_lt hc⟩
theorem RowsO.nil {w : World} {base : Nat} : RowsO w base (.slice none 0 0) [] [] := ⟨⟨rfl, .inl ⟨rfl, rfl⟩⟩, fun u hu => (by cases hu), fun W _ => Enc.nil _ _⟩
theorem RowsO.low {w : World} {base b2 : Nat} {v : Value} {xs : List S40} {raws : List Value} (h : RowsO w base v xs raws) (hb : b2 ≤ base) : RowsO w b2 v xs raws := by
 refine ⟨?_, h.one, h.enc⟩
 obtain ⟨hl, hv⟩ := h.own
 refine ⟨hl, ?_⟩
 rcases hv with h | ⟨g', cap, cur, rfl, h1, h2⟩
 ·exact .inl h
 ·exact .inr ⟨g', cap, cur, rfl, Nat.le_trans hb h1, h2⟩
theorem RowsO.read {w : World} {base : Nat} {v : Value} {xs : List S40} {raws : List Value} (h : RowsO w base v xs raws) (hn : xs.length ≤ 1000000) : ∃ A c, v = .slice A xs.length c ∧ xs.length ≤ c ∧ Kd.C k40 w A xs.length xs :=
 own_C (d := k40) h.own (h.enc w (Alike.refl w)) rfl (by unfold maxLen; omega)
theorem wpList_appRows {W : World} {ops : Array Oper} {rest : List Oper} {o : Oper} {a : Act} {Q : Exit → Act → World → Prop} (hgd : o.guard = none) (s x : Operand)
  (ho : o.op = .call { callee := .builtin .append, args := #[s, x], argTypes := #[22 , 22 ] })
  (base : Nat) (v : Value) (xs ys : List S40) (raws news : List Value) (m : Nat) (hm : ys.length = m) (hs : a.eval s = v) (hown : RowsO W base v xs raws) (hx : a.eval x = .slice (some ⟨W.heap.size, 0, none⟩) m m)
  (hl : news.length = m * 2) (h1 : ∀ u, u ∈ news → u.oneCell' = true) (hE : ∀ W', Alike W W' → Enc k40 W' ys news) (hn : xs.length + m < 1000000) (hbase : base ≤ W.heap.size)
  (h : ∀ v' w', Hid (RowsO w' base v' (xs ++ ys) (raws ++ news)) → Hid (Below base W w') → wpList Tryz.prog ops Q rest (a.put o.dst v') w') : wpList Tryz.prog ops Q (o :: rest) a (W.alloc (.cells news.toArray 40)) := by
 have hb0 : Below W.heap.size W (W.alloc (.cells news.toArray 40)) := (Below.refl _ _).alloc (Nat.le_refl _) _
 refine wpList_app hgd s x _ ho base 40 (.agg #[.slice none 0 0, .int .i64 0]) 2 32 Tryz.underlying22 infoRow rfl (by decide) v xs.length raws hs (hown.below hb0).own ⟨W.heap.size, 0, none⟩ m m news hx hl (fun j u hj => by
  rw [Addr.add_lit, Nat.zero_add, blk_cell (blk_new _ _), List.getElem?_toArray]; exact hj) h1 (by unfold maxLen; omega) (by omega) (by simp; omega) (fun v' w' k1 k2 k3 => ?_)
 have hbl : Below base W w' := Below.grown (hb0.mono hbase) k2 (by simp; omega) (fun k hk => (hown.bk hk).1)
 refine h v' w' (Lib.hid ⟨by rw [List.length_append, hm]; exact k1, fun u hu => ?_, fun W' hW => ?_⟩) (Lib.hid hbl)
 ·rcases List.mem_append.1 hu with h | h
  ·exact hown.one u h
  ·exact h1 u h
 ·have hal : Alike W W' := ((Alike.below hb0).trans (Alike.grown k2 (hown.below hb0).own (by decide))).trans hW
  exact (hown.enc W' hal).app (hE W' hal)
theorem stepRows {W : World} {ops : Array Oper} {o : Oper} {a : Act} {K : Act → World → Prop} {Q : Exit → Act → World → Prop} {E : Prop} (hgd : o.guard = none) (s x : Operand)
  (ho : o.op = .call { callee := .builtin .append, args := #[s, x], argTypes := #[22 , 22 ] })
  (base : Nat) (v : Value) (xs ys : List S40) (raws news : List Value) (A : Option Addr) (m c : Nat) (hm : ys.length = m) (hs : a.eval s = v) (hown : RowsO W base v xs raws) (hx : a.eval x = .slice A m c)
  (hr : Raw W A m 2 news) (hE : ∀ W', Alike W W' → Enc k40 W' ys news) (hn : xs.length + m < 1000000) (hbase : base ≤ W.heap.size)
  (h : ∀ v' w', Hid (RowsO w' base v' (xs ++ ys) (raws ++ news)) → Hid (Below base W w') → Hid (W.grownBy w' v.ownBlock) → K (a.put o.dst v') w') : if Region.wanted o (yielded ops a.tmps) = true then Oper.wp Tryz.prog o a W K Q else E := by
 refine step_appR hgd s x _ ho base 40 (.agg #[.slice none 0 0, .int .i64 0]) 2 32 Tryz.underlying22 infoRow rfl (by decide) v xs.length raws hs hown.own A m c news hx hr (by unfold maxLen; omega) (by omega) hbase (fun v' w' k1 k2 => ?_)
 refine h v' w' (Lib.hid ⟨by rw [List.length_append, hm]; exact k1.out, fun u hu => ?_, fun W' hW => ?_⟩) (Lib.hid (Below.grown (Below.refl _ _ |>.mono hbase) k2 hbase (fun k hk => (hown.bk hk).1))) (Lib.hid k2)
 ·rcases List.mem_append.1 hu with h | h
  ·exact hown.one u h
  ·exact hr.one u h
 ·have hal : Alike W W' := (Alike.grown k2 hown.own (by decide)).trans hW
  exact (hown.enc W' hal).app (hE W' hal)
theorem wpList_appRead {W : World} {ops : Array Oper} {rest : List Oper} {o : Oper} {a : Act} {Q : Exit → Act → World → Prop} (hgd : o.guard = none) (s x : Operand)
  (ho : o.op = .call { callee := .builtin .append, args := #[s, x], argTypes := #[22 , 22 ] })
  (base : Nat) (v : Value) (xs ys : List S40) (raws news : List Value) (A : Option Addr) (m c : Nat) (hm : ys.length = m) (hs : a.eval s = v) (hown : RowsO W base v xs raws) (hx : a.eval x = .slice A m c)
  (hr : Raw W A m 2 news) (hE : ∀ W', Alike W W' → Enc k40 W' ys news) (hn : xs.length + m < 1000000) (hbase : base ≤ W.heap.size)
  (h : ∀ v' w', Hid (RowsO w' base v' (xs ++ ys) (raws ++ news)) → Hid (Below base W w') → wpList Tryz.prog ops Q rest (a.put o.dst v') w') : wpList Tryz.prog ops Q (o :: rest) a W := by
 refine wpList_plain hgd fun K hK => ?_
 have := stepRows (ops := ops) (E := False) (Q := Q) (K := K) hgd s x ho base v xs ys raws news A m c hm hs hown hx hr hE hn hbase (fun v' w' h1 h2 _ => hK _ _ (h v' w' h1 h2))
 rwa [if_pos (show Region.wanted o (yielded ops a.tmps) = true by simp [Region.wanted, hgd])] at this
theorem RowsO.raw {w : World} {base n c : Nat} {A : Option Addr} {xs : List S40} {raws : List Value} (h : RowsO w base (.slice A n c) xs raws) : n = xs.length ∧ Raw w A n 2 raws := by
 obtain ⟨hl, hv⟩ := h.own
 rcases hv with ⟨e, h0⟩ | ⟨g, cap, cur, e, hg, hb, hn, hm, hs, ht⟩
 ·injection e with e1 e2 e3
  subst e1 e2 e3
  exact ⟨h0.symm, ⟨by rw [hl, h0], fun _ => rfl, fun ad e => (by cases e), h.one⟩⟩
 ·injection e with e1 e2 e3
  subst e1 e2 e3
  refine ⟨rfl, ⟨hl, fun e => (by cases e), fun ad e j u hj => ?_, h.one⟩⟩
  cases e
  rw [Addr.add_lit, Nat.zero_add]
  rw [← ht, List.getElem?_take] at hj
  split at hj
  ·rw [cell_of_row w g _ cur _ (0, 0) hb]; simpa using hj
  ·cases hj
theorem RowI.alike {w W : World} {base : Nat} {v : Value} {l : List Int} (h : RowI w base v l) (hW : Alike w W) : RowI W base v l := by
 obtain ⟨hl, hv⟩ := id h
 refine ⟨hl, ?_⟩
 rcases hv with h' | ⟨g, cap, cur, rfl, h1, hb, h3⟩
 ·exact .inl h'
 ·exact .inr ⟨g, cap, cur, rfl, h1, hW g cur hb, h3⟩
theorem encOne {w W : World} {base : Nat} {A : Option Addr} {n c : Nat} {l : List Int} {K : Int} (h : RowI w base (.slice A n c) l) (hW : Alike w W) : Enc k40 W [⟨l, K⟩] [.slice A n c, .int .i64 K] := by
 have h3 := RowI.alike h hW
 obtain ⟨A', c', e, hC⟩ := rowI_read h3
 injection e with e1 e2 e3
 subst e1 e2 e3
 obtain ⟨_, c1, _⟩ := Kd.R_reads' (RowI.toR h3)
 exact Enc.one rfl (k40_mk _ ⟨l, K⟩ (A0 := A) (c0 := c) c1 hC)
end Go.Proofs.YtbpjnkeilhfajaaGreat.Rw
end

section
/- ashlarlaw12.small, walked. -/
namespace Go.Proofs.YtbpjnkeilhfajaaGreat.Rw
open Go.RowKit Go.Proofs.YtbpjnkeilhfajaaGreat.Given Go.Proofs.YtbpjnkeilhfajaaGreatW.PrintWords Go.Proofs.YtbpjnkeilhfajaaGreatW.PrintLast Go.Proofs.YtbpjnkeilhfajaaGreat.Num Go.Proofs.YtbpjnkeilhfajaaGreat.Ln Go.Proofs.YtbpjnkeilhfajaaGreat.Lin
set_option linter.unusedVariables false
set_option linter.unusedSimpArgs false
def smallR (n : Nat) (r : S40) : S40 := ⟨(List.range n).map (fun k => (r.f0.getD k 0).tmod 10), r.f1.tmod 10⟩
def smallL (lim n : Nat) (l : List S40) : List S40 := (l.take lim).map (smallR n)
def BxR (w : World) (g : Nat) (x y : Value) : Prop := w.heap[g]? = some (.cells #[x, y] 40 (0, 0))
theorem BxR.cells {w : World} {g : Nat} {x y : Value} (h : BxR w g x y) : w.cell? ⟨g, 0, none⟩ = some x ∧ w.cell? ⟨g, 1, none⟩ = some y ∧ w.frozen? ⟨g, 0, none⟩ = false ∧ w.frozen? ⟨g, 1, none⟩ = false ∧ g < w.heap.size :=
 ⟨blk_cell h 0, blk_cell h 1, blk_frozen h 0, blk_frozen h 1, blk_lt h⟩
theorem BxR.keep {w w1 : World} {b g : Nat} {x y : Value} (h : BxR w g x y) (hb : Below b w w1) (hg : g < b) : BxR w1 g x y := (hb.block g hg).trans h
theorem rowI_far {w : World} {base : Nat} {v : Value} {l : List Int} (h : RowI w base v l) {g i : Nat} (hg : g < base) (u : Value) : RowI (w.setCell ⟨g, i, none⟩ u) base v l := by
 obtain ⟨hl, hv⟩ := h
 refine ⟨hl, ?_⟩
 rcases hv with h | ⟨g', cap, cur, rfl, h1, hb, h2⟩
 ·exact .inl h
 ·exact .inr ⟨g', cap, cur, rfl, h1, blk_far hb (p := ⟨g, i, none⟩) (by show g' ≠ g; omega) u, h2⟩
theorem rowI_nil {w : World} {base : Nat} : RowI w base (.slice none 0 0) [] := ⟨rfl, .inl ⟨rfl, rfl⟩⟩
set_option maxHeartbeats 8000000 in
set_option maxRecDepth 100000 in
theorem small12_any (l : List S40) (A : Option Addr) (c n : Nat) (w : World) (hC : Kd.C k40 w A l.length l) (hn : n ≤ 3) :
  Calls Tryz.prog 30 #[.slice A l.length c, .int .i64 n] w fun e w' => ∃ v raws, e = .returned v ∧ RowsO w' w.heap.size v (smallL 3 n l) raws ∧ Below w.heap.size w w' := by
 have HC := Lib.hid hC
 have HN := Lib.hid hn
 clear hC hn
 go_enter Tryz.func30, Tryz.ntmps30
 go_wp2
 go_loopw [5, 6] (fun v5 v6 wr => ∃ (i : Nat) (raws : List Value), i ≤ l.length ∧ i ≤ 3 ∧ v6 = .int .i64 i ∧ Hid (RowsO wr w.heap.size v5 ((l.take i).map (smallR n)) raws) ∧ Hid (Below w.heap.size w wr)) (fun _ v6 _ => l.length - (intOf v6).toNat)
 case atStart => exact ⟨0, [], Nat.zero_le _, by omega, rfl, Lib.hid (by rw [List.take_zero]; exact RowsO.nil), Lib.hid (Below.refl _ _)⟩
 case round =>
  obtain ⟨i, raws, hi, hi3, rfl, HO, HB⟩ := hrel
  by_cases hb : i < l.length ∧ i < 3
  ·have e1 : (i < l.length) = True := eq_true hb.1
   have e2 : (i < 3) = True := eq_true hb.2
   have e2' : ((i : Int) < 3) = True := eq_true (by omega)
   obtain ⟨ad, A0, c0, rfl, z0, z1, hc0, hrow⟩ := row_at HC.out hb.1
   have HT := Lib.hid (show (l.take (i + 1)).map (smallR n) = (l.take i).map (smallR n) ++ [smallR n l[i]] by rw [List.take_add_one, List.getElem?_eq_getElem hb.1, List.map_append]; rfl)
   obtain ⟨r, hr⟩ : ∃ r, l[i] = r := ⟨_, rfl⟩
   rw [hr] at z0 z1 hrow HT
   have q1 := kcell HB.out z1
   obtain ⟨K, hK⟩ : ∃ K, r.f1.tmod 10 = K := ⟨_, rfl⟩
   have HK := Lib.hid hK
   have HROW := Lib.hid hrow
   have HII := Lib.hid (And.intro hi hb)
   have EWi := Lib.hid (wrapj (show i + 1 < 9223372036854775808 by omega))
   clear hi hi3 hb hr hc0 hrow
   obtain ⟨wo, hwo⟩ : ∃ wo, wo = wr := ⟨_, rfl⟩
   subst hwo
   go_wp2
   go_loopw [8] (fun v8 wr => ∃ (k : Nat) (v : Value), k ≤ n ∧ v8 = .int .i64 k ∧ Hid (BxR wr wo.heap.size v (.int .i64 K)) ∧ Hid (RowI wr (wo.heap.size + 1) v ((List.range k).map (fun k => (r.f0.getD k 0).tmod 10))) ∧ Hid (Below wo.heap.size wo wr)) (fun v8 _ => n - (intOf v8).toNat)
   case atStart => exact ⟨0, _, Nat.zero_le _, rfl, Lib.hid (blk_new _ _), Lib.hid rowI_nil, Lib.hid ((Below.refl _ _).alloc (Nat.le_refl _) _)⟩
   case round =>
    clear q1 hK
    obtain ⟨k, v, hk, rfl, HX, HI, HB2⟩ := hrel
    have HB3 := Lib.hid (HB.out.trans (HB2.out.mono HB.out.size))
    obtain ⟨p0, p1, p2, p3, p4⟩ := HX.out.cells
    by_cases hkn : k < n
    ·have e3 : (k < n) = True := eq_true hkn
     have hL : ((List.range k).map (fun k => (r.f0.getD k 0).tmod 10)).length < 1000000 := by rw [List.length_map, List.length_range]; have := HN.out; omega
     have HL := Lib.hid hL
     have EWk := Lib.hid (wrapj (show k + 1 < 9223372036854775808 by have := HN.out; omega))
     have hS : (List.range (k + 1)).map (fun k => (r.f0.getD k 0).tmod 10) = (List.range k).map (fun k => (r.f0.getD k 0).tmod 10) ++ [(r.f0.getD k 0).tmod 10] := by rw [List.range_succ, List.map_append]; rfl
     have q0 := kcell HB3.out z0
     by_cases hkr : k < r.f0.length
     ·have e4 : (k < r.f0.length) = True := eq_true hkr
      obtain ⟨ar, rfl, s0⟩ := i64_at HROW.out hkr
      replace s0 := kcell HB3.out s0
      rw [show r.f0.getD k 0 = r.f0[k] by rw [List.getD_eq_getElem?_getD, List.getElem?_eq_getElem hkr]; rfl] at hS
      obtain ⟨x, hx⟩ : ∃ x, r.f0[k] = x := ⟨_, rfl⟩
      rw [hx] at s0 hS
      obtain ⟨y, hy⟩ : ∃ y, x.tmod 10 = y := ⟨_, rfl⟩
      rw [hy] at hS
      have HS := Lib.hid hS
      have HKK := Lib.hid (And.intro hk hkn)
      clear hk hkn hkr hS hx hL
      go_wp2_with (at_builtin; refine wpList_appI rfl (.tmp 50) (.tmp 52) rfl (wo.heap.size + 1) y _ _ rfl HI.out rfl HL.out p4 ?_; intro v1 w1 HI1 HB1; obtain ⟨A1, n1, c1, rfl⟩ : ∃ A n c, v1 = .slice A n c := (by obtain ⟨A, c, e, _⟩ := rowI_read HI1.out; exact ⟨A, _, c, e⟩); have HX1 := Lib.hid (HX.out.keep HB1.out (by omega)); obtain ⟨t0, t1, t2, t3, t4⟩ := HX1.out.cells)
      refine ⟨⟨k + 1, _, HKK.out.2, congrArg (Value.int .i64) EWk.out, Lib.hid (blk_put HX1.out 0 _ rfl), Lib.hid (by rw [HS.out]; exact rowI_far HI1.out (by omega) _), Lib.hid ((HB2.out.trans (HB1.out.mono (Nat.le_succ _))).setCell (Nat.le_refl _) _)⟩, ?_⟩
      rw [EWk.out]
      simp only [intOf, Int.toNat_natCast]
      exact meas_lt HKK.out.2
     ·have e4 : (k < r.f0.length) = False := eq_false hkr
      rw [show r.f0.getD k 0 = 0 by rw [List.getD_eq_getElem?_getD, List.getElem?_eq_none (by omega)]; rfl, show (0 : Int).tmod 10 = 0 from rfl] at hS
      have HS := Lib.hid hS
      have HKK := Lib.hid (And.intro hk hkn)
      clear hk hkn hkr hS hL
      go_wp2_with (at_builtin; refine wpList_appI rfl (.tmp 50) (.tmp 52) rfl (wo.heap.size + 1) 0 _ _ rfl HI.out rfl HL.out p4 ?_; intro v1 w1 HI1 HB1; obtain ⟨A1, n1, c1, rfl⟩ : ∃ A n c, v1 = .slice A n c := (by obtain ⟨A, c, e, _⟩ := rowI_read HI1.out; exact ⟨A, _, c, e⟩); have HX1 := Lib.hid (HX.out.keep HB1.out (by omega)); obtain ⟨t0, t1, t2, t3, t4⟩ := HX1.out.cells)
      refine ⟨⟨k + 1, _, HKK.out.2, congrArg (Value.int .i64) EWk.out, Lib.hid (blk_put HX1.out 0 _ rfl), Lib.hid (by rw [HS.out]; exact rowI_far HI1.out (by omega) _), Lib.hid ((HB2.out.trans (HB1.out.mono (Nat.le_succ _))).setCell (Nat.le_refl _) _)⟩, ?_⟩
      rw [EWk.out]
      simp only [intOf, Int.toNat_natCast]
      exact meas_lt HKK.out.2
    ·have hkn' : k = n := by omega
     subst k
     have e3 : (n < n) = False := eq_false (Nat.lt_irrefl _)
     obtain ⟨A1, n1, c1, rfl⟩ : ∃ A n c, v = .slice A n c := by obtain ⟨A, c, e, _⟩ := rowI_read HI.out; exact ⟨A, _, c, e⟩
     have HO2 := Lib.hid (HO.out.below HB2.out)
     have hL : ((l.take i).map (smallR n)).length + 1 < 1000000 := by rw [List.length_map, List.length_take]; have := HII.out; omega
     have HL := Lib.hid hL
     clear hk hkn hL
     go_wp2_with (at_builtin; refine wpList_appRows rfl (.tmp 55) (.tmp 57) rfl w.heap.size _ _ [smallR n r] _ [.slice A1 n1 c1, .int .i64 K] 1 rfl rfl HO2.out rfl rfl ?h1 (fun W' hW => by have h := encOne HI.out hW (K := K); rw [← HK.out] at h ⊢; exact h) HL.out HB3.out.size ?_; (case h1 => intro u hu; simp only [List.mem_cons, List.not_mem_nil, or_false] at hu; rcases hu with rfl | rfl <;> rfl); intro v1 w1 HO1 HB1)
     refine ⟨⟨i + 1, _, HII.out.2.1, HII.out.2.2, congrArg (Value.int .i64) EWi.out, Lib.hid (by rw [HT.out]; exact HO1.out), Lib.hid (HB3.out.trans HB1.out)⟩, ?_⟩
     rw [EWi.out]
     simp only [intOf, Int.toNat_natCast]
     exact meas_lt HII.out.2.1
  ·have hs : smallL 3 n l = (l.take i).map (smallR n) := by
    unfold smallL
    rcases Nat.lt_or_ge i l.length with h1 | h1
    ·have : i = 3 := by omega
     rw [this]
    ·rw [List.take_of_length_le h1, List.take_of_length_le (by omega)]
   have HS := Lib.hid hs
   by_cases h1 : i < l.length
   ·have e1 : (i < l.length) = True := eq_true h1
    have e2 : (i < 3) = False := eq_false (by omega)
    have e2' : ((i : Int) < 3) = False := eq_false (by omega)
    clear hs hb h1 hi hi3
    go_wp2
    go_ret
    exact ⟨_, _, rfl, by rw [HS.out]; exact HO.out, HB.out⟩
   ·have e1 : (i < l.length) = False := eq_false h1
    clear hs hb h1 hi hi3
    go_wp2
    go_ret
    exact ⟨_, _, rfl, by rw [HS.out]; exact HO.out, HB.out⟩
end Go.Proofs.YtbpjnkeilhfajaaGreat.Rw
end
