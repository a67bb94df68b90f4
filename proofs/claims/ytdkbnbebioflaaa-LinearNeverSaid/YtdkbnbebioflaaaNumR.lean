import Derived.Test.YtdkbnbebioflaaaNumN
import Derived.Test.YtdkbnbebioflaaaNumG
import Derived.Test.YtdkbnbebioflaaaNumGivenA
import Derived.Test.YtdkbnbebioflaaaTk
section
/- Contracts of num: sum at large numbers. -/
namespace Go.Proofs
theorem Z2s0 {p : Prop} (h : p := by simp [go_sem]) : p := h
theorem Z2s1 {p : Prop} (h : p := by first | exact Nat.le_refl _ | (simp; done) | (simp; omega) | omega) : p := h
theorem Z2s2 {p : Prop} (h : p := by repeat (first | exact Below.refl _ _ | with_reducible assumption | refine Below.alloc ?_ (by first | exact Nat.le_refl _ | (simp; done) | (simp; omega) | omega) _ | refine Below.setCell ?_ (by first | exact Nat.le_refl _ | (simp; done) | (simp; omega) | omega) _ | refine Below.drew ?_ | refine bdrewN ?_ _)) : p := h
end Go.Proofs
namespace Go.Proofs.Ytdkbnbebioflaaa.Num
open Go.RowKit
set_option linter.unusedVariables false
set_option linter.unusedSimpArgs false

theorem cf_sum1 (args : Array Value) (w : World) : (callFunc 76 args).run Try.prog w = .ok (.enter 76 args) w := by kernel_rfl

/-- Both, if both fit. -/
def both (x y : Int) : Int × Int × Bool := if In64 x ∧ In64 y then (x, y, true) else (0, 0, false)

/-- What sum comes to by its own words. -/
def sumT (p q r s : Int) (t : Bool) : Int := p * (s / (Int.gcd q s : Int)) + (if t = true then -(r * (q / (Int.gcd q s : Int))) else r * (q / (Int.gcd q s : Int)))
def sumG (p q r s : Int) (t : Bool) : Int := (Int.gcd (sz (sumT p q r s t) % (Int.gcd q s : Int)) (Int.gcd q s) : Int)
def sumL (p q r s : Int) (t : Bool) : Int × Int × Bool := both (quo0 (sumT p q r s t) (sumG p q r s t)) (q / (Int.gcd q s : Int) * (s / sumG p q r s t))

theorem sum1_fits (p q r s : Int) (t : Bool) (w : World) (ba bb bt : Nat) (hp : In64 p) (hq : In64 q) (hr : In64 r) (hs : In64 s) (q0 : 0 < q) (s0 : 0 < s)
    (ca : w.cell? ⟨ba, 0, none⟩ = some (.int .i64 p)) (ca1 : w.cell? ⟨ba, 1, none⟩ = some (.int .i64 q)) (cb : w.cell? ⟨bb, 0, none⟩ = some (.int .i64 r)) (cb1 : w.cell? ⟨bb, 1, none⟩ = some (.int .i64 s)) (ct : w.cell? ⟨bt, 0, none⟩ = some (.bool t)) :
    Calls Try.prog 12 #[.func (.func 76) #[] #[.pointer (some ⟨ba, 0, none⟩), .pointer (some ⟨bb, 0, none⟩), .pointer (some ⟨bt, 0, none⟩)]] w fun e w' => e = .returned (RB (sumL p q r s t)) ∧ Below w.heap.size w w' := by
  unfold sumL both
  by_cases hf : In64 (quo0 (sumT p q r s t) (sumG p q r s t)) ∧ In64 (q / (Int.gcd q s : Int) * (s / sumG p q r s t))
  · rw [if_pos hf]
    exact fitsR_ok _ _ _ _ w (cf_sum1 _) (fun W hW => sum1_ok p q r s _ _ _ t ba bb bt W hp hq hr hs q0 s0 (keepcell hW ca) (keepcell hW ca1) (keepcell hW cb) (keepcell hW cb1) (keepcell hW ct) (cell_lt (keepcell hW ca)) (cell_lt (keepcell hW cb)) (cell_lt (keepcell hW ct)) rfl rfl rfl _ _ _ rfl rfl rfl hf)
  · rw [if_neg hf]
    exact fitsR_no _ _ w (cf_sum1 _) (fun W hW => sum1_no p q r s _ _ _ t ba bb bt W hp hq hr hs q0 s0 (keepcell hW ca) (keepcell hW ca1) (keepcell hW cb) (keepcell hW cb1) (keepcell hW ct) (cell_lt (keepcell hW ca)) (cell_lt (keepcell hW cb)) (cell_lt (keepcell hW ct)) rfl rfl rfl _ _ _ rfl rfl rfl hf)

theorem smallB_cases (p q r s : Int) (h : ¬ (smallB p q = true ∧ smallB r s = true)) : smallB p q = false ∨ (smallB p q = true ∧ smallB r s = false) := by
  cases h1 : smallB p q with
  | false => exact .inl rfl
  | true => exact .inr ⟨rfl, by cases h2 : smallB r s with | false => rfl | true => exact absurd ⟨h1, h2⟩ h⟩

theorem sum_large (p q r s : Int) (t : Bool) (w : World) (hp : In64 p) (hq : In64 q) (hr : In64 r) (hs : In64 s) (q0 : 0 < q) (s0 : 0 < s) (hk : ¬ (smallB p q = true ∧ smallB r s = true)) :
    Calls Try.prog 61 #[RV p q, RV r s, .bool t] w fun e w' => e = .returned (RB (sumL p q r s t)) ∧ Below w.heap.size w w' := by
  have hmf := run_makeFunc
  have ff := Lib.hid (fun (W0 : World) (ba bb bt : Nat) => sum1_fits p q r s t W0 ba bb bt hp hq hr hs q0 s0)
  have e1 : decide (0 < q) = true := decide_eq_true q0
  have e2 : decide (0 < s) = true := decide_eq_true s0
  clear hp hq hr hs q0 s0
  generalize sumL p q r s t = z at *
  obtain ⟨x, y, b⟩ := z
  rcases smallB_cases p q r s hk with k1 | ⟨k1, k2⟩
  all_goals clear hk
  · go_enter Try.func61, Try.ntmps61
    go_wp2_with fail
    refine (right_any _ _ _).mono ?_
    rintro e w1 ⟨rfl, rfl⟩
    rw [e1]
    go_wp2_with fail
    refine (right_any _ _ _).mono ?_
    rintro e w1 ⟨rfl, rfl⟩
    rw [e2]
    go_wp2_with fail
    refine (small_any _ _ _).mono ?_
    rintro e w1 ⟨rfl, rfl⟩
    rw [k1]
    go_wp2_with fail
    refine (small_any _ _ _).mono ?_
    rintro e w1 ⟨rfl, rfl⟩
    rw [k1]
    go_wp2_with fail
    refine (ff.out _ _ _ _ Z2s0 Z2s0 Z2s0 Z2s0 Z2s0).mono ?_
    rintro e w1 ⟨rfl, hb1⟩
    obtain ⟨g1, g2, g3⟩ := bgrow hb1
    have hbw : Below w.heap.size w w1 := by refine Below.trans ?_ (hb1.mono Z2s1); exact Z2s2
    have z0 : w1.cell? ⟨w.heap.size + 1 + 1 + 1, 0, none⟩ = some (.int .i64 0) := by rw [g1 _ _ Z2s1]; simp [go_sem]
    have z1 : w1.cell? ⟨w.heap.size + 1 + 1 + 1, 1, none⟩ = some (.int .i64 0) := by rw [g1 _ _ Z2s1]; simp [go_sem]
    go_wp2
    exact bodyPost_ret (v := RB (x, y, b)) (by simp [results, Try.results61, go_sem, z0, z1]) rfl ⟨rfl, Z2s2⟩
  · go_enter Try.func61, Try.ntmps61
    go_wp2_with fail
    refine (right_any _ _ _).mono ?_
    rintro e w1 ⟨rfl, rfl⟩
    rw [e1]
    go_wp2_with fail
    refine (right_any _ _ _).mono ?_
    rintro e w1 ⟨rfl, rfl⟩
    rw [e2]
    go_wp2_with fail
    refine (small_any _ _ _).mono ?_
    rintro e w1 ⟨rfl, rfl⟩
    rw [k1]
    go_wp2_with fail
    refine (small_any _ _ _).mono ?_
    rintro e w1 ⟨rfl, rfl⟩
    rw [k2]
    go_wp2_with fail
    refine (small_any _ _ _).mono ?_
    rintro e w1 ⟨rfl, rfl⟩
    rw [k1]
    go_wp2_with fail
    refine (small_any _ _ _).mono ?_
    rintro e w1 ⟨rfl, rfl⟩
    rw [k2]
    go_wp2_with fail
    refine (ff.out _ _ _ _ Z2s0 Z2s0 Z2s0 Z2s0 Z2s0).mono ?_
    rintro e w1 ⟨rfl, hb1⟩
    obtain ⟨g1, g2, g3⟩ := bgrow hb1
    have hbw : Below w.heap.size w w1 := by refine Below.trans ?_ (hb1.mono Z2s1); exact Z2s2
    have z0 : w1.cell? ⟨w.heap.size + 1 + 1 + 1, 0, none⟩ = some (.int .i64 0) := by rw [g1 _ _ Z2s1]; simp [go_sem]
    have z1 : w1.cell? ⟨w.heap.size + 1 + 1 + 1, 1, none⟩ = some (.int .i64 0) := by rw [g1 _ _ Z2s1]; simp [go_sem]
    go_wp2
    exact bodyPost_ret (v := RB (x, y, b)) (by simp [results, Try.results61, go_sem, z0, z1]) rfl ⟨rfl, Z2s2⟩

end Go.Proofs.Ytdkbnbebioflaaa.Num
end

section
/- The contracts of num's functions, in the form in which a printed text meets a callee: Plus and Minus. -/
namespace Go.Proofs.Ytdkbnbebioflaaa.Given
open Go.RowKit Go.Proofs.Ytdkbnbebioflaaa.Num

def sumR (p q r s : Int) (t : Bool) : Int × Int × Bool :=
  if 0 < q ∧ 0 < s then if smallB p q = true ∧ smallB r s = true then mk (top p q r s t) (q * s) else sumL p q r s t else (0, 0, false)
theorem sum_any (p q r s : Int) (t : Bool) (w : World) (hp : In64 p) (hq : In64 q) (hr : In64 r) (hs : In64 s) :
    Calls Try.prog 61 #[RV p q, RV r s, .bool t] w fun e w' => e = .returned (RB (sumR p q r s t)) ∧ Below w.heap.size w w' := by
  unfold sumR
  by_cases h0 : 0 < q ∧ 0 < s
  · rw [if_pos h0]
    by_cases hk : smallB p q = true ∧ smallB r s = true
    · rw [if_pos hk]; exact sum_small p q r s t w h0.1 h0.2 hk.1 hk.2
    · rw [if_neg hk]; exact sum_large p q r s t w hp hq hr hs h0.1 h0.2 hk
  · rw [if_neg h0]; exact sum_wrong p q r s t w h0

def num_Rat_Plus.f (a0_0 a0_1 a1_0 a1_1 : Int) : Option (Int × Int × Bool) := if In64 a0_0 ∧ In64 a0_1 ∧ In64 a1_0 ∧ In64 a1_1 then some (sumR a0_0 a0_1 a1_0 a1_1 false) else none
theorem num_Rat_Plus.calls (a0_0 a0_1 a1_0 a1_1 : Int) (r1 r2 : Int) (r3 : Bool) (w : World) (h : num_Rat_Plus.f a0_0 a0_1 a1_0 a1_1 = some (r1, r2, r3)) :
    Calls Try.prog 45 #[.agg #[.int .i64 a0_0, .int .i64 a0_1], .agg #[.int .i64 a1_0, .int .i64 a1_1]] w fun e w' => e = .returned (.tuple #[.agg #[.int .i64 r1, .int .i64 r2], .bool r3]) ∧ Below w.heap.size w w' := by
  unfold num_Rat_Plus.f at h
  split at h
  · rename_i hd
    have := Plus_of a0_0 a0_1 a1_0 a1_1 _ w (fun W => sum_any a0_0 a0_1 a1_0 a1_1 false W hd.1 hd.2.1 hd.2.2.1 hd.2.2.2)
    rw [Option.some.inj h] at this
    exact this
  · cases h

def num_Rat_Minus.f (a0_0 a0_1 a1_0 a1_1 : Int) : Option (Int × Int × Bool) := if In64 a0_0 ∧ In64 a0_1 ∧ In64 a1_0 ∧ In64 a1_1 then some (sumR a0_0 a0_1 a1_0 a1_1 true) else none
theorem num_Rat_Minus.calls (a0_0 a0_1 a1_0 a1_1 : Int) (r1 r2 : Int) (r3 : Bool) (w : World) (h : num_Rat_Minus.f a0_0 a0_1 a1_0 a1_1 = some (r1, r2, r3)) :
    Calls Try.prog 57 #[.agg #[.int .i64 a0_0, .int .i64 a0_1], .agg #[.int .i64 a1_0, .int .i64 a1_1]] w fun e w' => e = .returned (.tuple #[.agg #[.int .i64 r1, .int .i64 r2], .bool r3]) ∧ Below w.heap.size w w' := by
  unfold num_Rat_Minus.f at h
  split at h
  · rename_i hd
    have := Minus_of a0_0 a0_1 a1_0 a1_1 _ w (fun W => sum_any a0_0 a0_1 a1_0 a1_1 true W hd.1 hd.2.1 hd.2.2.1 hd.2.2.2)
    rw [Option.some.inj h] at this
    exact this
  · cases h

end Go.Proofs.Ytdkbnbebioflaaa.Given
end

section
/- The closure of num's Times. -/
namespace Go.Proofs
theorem Z2o0 {p : Prop} (h : p := by kernel_rfl) : p := h
theorem Z2o4 {p : Prop} (h : p := by repeat (first | exact Below.refl _ _ | with_reducible assumption | refine Below.alloc ?_ (by first | exact Nat.le_refl _ | (simp; done) | (simp; omega) | omega) _ | refine Below.setCell ?_ (by first | exact Nat.le_refl _ | (simp; done) | (simp; omega) | omega) _ | refine Below.drew ?_ | refine bdrewN ?_ _)) : p := h
theorem Z2o1 {p : Prop} (h : p := by exact ⟨keepcell (W := w) Z2o4 ca, keepcell (W := w) Z2o4 ca1, keepcell (W := w) Z2o4 cb, keepcell (W := w) Z2o4 cb1⟩) : p := h
theorem Z2o2 {p : Prop} (h : p := by first | exact Nat.le_refl _ | (simp; done) | (simp; omega) | omega) : p := h
theorem Z2o5 {p : Prop} (h : p := by first | exact Nat.le_refl _ | (simp; done) | (simp; omega) | omega) : p := h
theorem Z2o3 {p : Prop} (h : p := by repeat (first | exact Below.refl _ _ | with_reducible assumption | refine Below.alloc ?_ Z2o5 _ | refine Below.setCell ?_ Z2o5 _ | refine Below.drew ?_ | refine bdrewN ?_ _)) : p := h
end Go.Proofs
namespace Go.Proofs.Ytdkbnbebioflaaa.Num
open Go.RowKit
set_option linter.unusedVariables false
set_option linter.unusedSimpArgs false

/-- A product of sizes, with a sign. -/
theorem wv_sizes {a b : Int} (c : Bool) (ha : 0 ≤ a) (ha2 : a ≤ 9223372036854775808) (hb : 0 ≤ b) (hb2 : b ≤ 9223372036854775808) :
    WV (if c = true then -(a * b) else a * b) c (a * b / 18446744073709551616) (a * b % 18446744073709551616) := by
  have hm := mul_bound ha ha2 hb hb2
  refine ⟨by omega, by omega, by omega, by omega, ?_⟩
  cases c <;> simp <;> omega

theorem ediv_bound {a g m : Int} (ha : 0 ≤ a) (ha2 : a ≤ m) (hg : 0 < g) : 0 ≤ a / g ∧ a / g ≤ m := by
  have := Int.ediv_nonneg ha (Int.le_of_lt hg)
  have := Int.ediv_le_self g ha
  omega

set_option maxHeartbeats 4000000 in
theorem times1_ok (p q r s g h pg rh qh sg' : Int) (ba bb : Nat) (w : World) (hp : In64 p) (hq : In64 q) (hr : In64 r) (hs : In64 s) (q0 : 0 < q) (s0 : 0 < s)
    (ca : w.cell? ⟨ba, 0, none⟩ = some (.int .i64 p)) (ca1 : w.cell? ⟨ba, 1, none⟩ = some (.int .i64 q)) (cb : w.cell? ⟨bb, 0, none⟩ = some (.int .i64 r)) (cb1 : w.cell? ⟨bb, 1, none⟩ = some (.int .i64 s))
    (hg : (Int.gcd p s : Int) = g) (hh : (Int.gcd r q : Int) = h) (hpg : sz p / g = pg) (hrh : sz r / h = rh) (hqh : q / h = qh) (hsg : s / g = sg')
    (X : Int) (hX : (if sg p r = true then -(pg * rh) else pg * rh) = X) (hfit : In64 X ∧ In64 (qh * sg')) :
    Calls Try.prog 65 #[.pointer (some ⟨ba, 0, none⟩), .pointer (some ⟨bb, 0, none⟩)] w fun e w' => e = .returned (RV X (qh * sg')) ∧ Below w.heap.size w w' := by
  have sp := Lib.hid (fun W0 => size_any p W0 hp.1 hp.2)
  have sq := Lib.hid (fun W0 => size_any q W0 hq.1 hq.2)
  have sr := Lib.hid (fun W0 => size_any r W0 hr.1 hr.2)
  have ss := Lib.hid (fun W0 => size_any s W0 hs.1 hs.2)
  have zq : sz q = q := by unfold sz; rw [if_neg (by omega)]
  have zs : sz s = s := by unfold sz; rw [if_neg (by omega)]
  rw [zq] at sq
  rw [zs] at ss
  have a1 := sz_nonneg p
  have a2 := sz_le hp.1 hp.2
  have b1 := sz_nonneg r
  have b2 := sz_le hr.1 hr.2
  have qlt := hq.2
  have slt := hs.2
  have G1 := Lib.hid (fun W0 => gcd_any (sz p) s W0 a1 (by omega) (by omega) (by omega))
  have G2 := Lib.hid (fun W0 => gcd_any (sz r) q W0 b1 (by omega) (by omega) (by omega))
  rw [show Int.gcd (sz p) s = Int.gcd p s by rw [← gcd_sz p s, zs], hg] at G1
  rw [show Int.gcd (sz r) q = Int.gcd r q by rw [← gcd_sz r q, zq], hh] at G2
  have g0 : 0 < g := by rw [← hg]; exact gcd_pos (by omega)
  have h0 : 0 < h := by rw [← hh]; exact gcd_pos (by omega)
  have g1 : g ≤ s := by
    rw [← hg]
    have := Int.gcd_le_natAbs_right (a := p) (b := s) (by omega)
    omega
  have h1 : h ≤ q := by
    rw [← hh]
    have := Int.gcd_le_natAbs_right (a := r) (b := q) (by omega)
    omega
  have gn : ¬ g = 0 := by omega
  have hn : ¬ h = 0 := by omega
  have e1 : IntKind.u64.wrap ((sz p).tdiv g) = pg := by rw [div_spell a1 (by omega) g0, hpg]
  have e2 : IntKind.u64.wrap ((sz r).tdiv h) = rh := by rw [div_spell b1 (by omega) h0, hrh]
  have bp := ediv_bound a1 a2 g0
  have br := ediv_bound b1 b2 h0
  rw [hpg] at bp
  rw [hrh] at br
  have bq := ediv_bound (a := q) (by omega) (Int.le_refl _) h0
  have bs := ediv_bound (a := s) (by omega) (Int.le_refl _) g0
  rw [hqh] at bq
  rw [hsg] at bs
  have i1 : In64 qh := ⟨by omega, by omega⟩
  have i2 : In64 sg' := ⟨by omega, by omega⟩
  have wg' : IntKind.i64.wrap g = g := wrapi_in ⟨by omega, by omega⟩
  have wh' : IntKind.i64.wrap h = h := wrapi_in ⟨by omega, by omega⟩
  have e3 : q.tdiv h = qh := by rw [Int.tdiv_eq_ediv_of_nonneg (by omega), hqh]
  have e4 : s.tdiv g = sg' := by rw [Int.tdiv_eq_ediv_of_nonneg (by omega), hsg]
  have e5 := wrapi_in i1
  have e6 := wrapi_in i2
  have MU := Lib.hid (fun W0 => mul64_any pg rh W0 bp.1 (by omega) br.1 (by omega))
  have PR := Lib.hid (fun W0 => product_any qh sg' W0 i1.1 i1.2 i2.1 i2.2)
  have RR := Lib.hid (fun W0 => rat_ok (hX ▸ wv_sizes (sg p r) bp.1 bp.2 br.1 br.2) (wv_mul i1 i2) hfit.1 hfit.2 W0)
  have hsgn := sg_spell p r
  have hz : w.heap.size < w.heap.size + 1 := by omega
  have la := cell_lt ca
  have lb := cell_lt cb
  clear hp hq hr hs q0 s0 hg hh hpg hrh hqh hsg hfit hX zq zs a1 a2 b1 b2 qlt slt g0 h0 g1 h1 bp br bq bs i1 i2
  generalize pg * rh / 18446744073709551616 = hi at *
  generalize pg * rh % 18446744073709551616 = lo at *
  go_enter Try.func65, Try.ntmps65
  go_wp2
  refine wp_region_held_drew (S := (fun w' => w'.cell? ⟨ba, 0, none⟩ = some (.int .i64 p) ∧ w'.cell? ⟨ba, 1, none⟩ = some (.int .i64 q) ∧ w'.cell? ⟨bb, 0, none⟩ = some (.int .i64 r) ∧ w'.cell? ⟨bb, 1, none⟩ = some (.int .i64 s))) Z2o0 ?_ (fun hHeld => ?_)
  · exact Z2o1
  iterate 8 (first | refine tk0.go ?_ | refine tk1.go ?_ | refine tk3.go ?_ | refine tk4.go ?_ | refine tk7.go ?_ | refine tk8.go ?_ | refine tk10.go ?_ | refine tk11.go ?_)
  refine wpAnyH_ready (rs := [2]) Z2o0 (by simp) (ac2 (fun K hK => ?_) (AllReadyH.nil))
  focus go_simp
  focus (refine (sp.out _).mono ?_; rintro e w1 ⟨rfl, rfl⟩)
  focus try simp only []
  refine hK.out _ _ ?_ (fun hHeld => ?_)
  · exact Z2o1
  focus clear hK K; try simp only [Act.put, List.setIfInBounds_toArray, List.set_cons_zero, List.set_cons_succ]
  refine wpAnyH_ready (rs := [5]) Z2o0 (by simp) (ac5 (fun K hK => ?_) (AllReadyH.nil))
  focus go_simp
  focus (refine (ss.out _).mono ?_; rintro e w1 ⟨rfl, rfl⟩)
  focus try simp only []
  refine hK.out _ _ ?_ (fun hHeld => ?_)
  · exact Z2o1
  focus clear hK K; try simp only [Act.put, List.setIfInBounds_toArray, List.set_cons_zero, List.set_cons_succ]
  refine wpAnyH_ready (rs := [6]) Z2o0 (by simp) (ac6 (fun K hK => ?_) (AllReadyH.nil))
  focus go_simp
  focus (refine (G1.out _).mono ?_; rintro e w1 ⟨rfl, n1, rfl⟩)
  focus try simp only []
  refine hK.out _ _ ?_ (fun hHeld => ?_)
  · exact Z2o1
  focus clear hK K; try simp only [Act.put, List.setIfInBounds_toArray, List.set_cons_zero, List.set_cons_succ]
  refine wpAnyH_ready (rs := [9]) Z2o0 (by simp) (ac9 (fun K hK => ?_) (AllReadyH.nil))
  focus go_simp
  focus (refine (sr.out _).mono ?_; rintro e w1 ⟨rfl, rfl⟩)
  focus try simp only []
  refine hK.out _ _ ?_ (fun hHeld => ?_)
  · exact Z2o1
  focus clear hK K; try simp only [Act.put, List.setIfInBounds_toArray, List.set_cons_zero, List.set_cons_succ]
  refine wpAnyH_ready (rs := [12]) Z2o0 (by simp) (ac12 (fun K hK => ?_) (AllReadyH.nil))
  focus go_simp
  focus (refine (sq.out _).mono ?_; rintro e w1 ⟨rfl, rfl⟩)
  focus try simp only []
  refine hK.out _ _ ?_ (fun hHeld => ?_)
  · exact Z2o1
  focus clear hK K; try simp only [Act.put, List.setIfInBounds_toArray, List.set_cons_zero, List.set_cons_succ]
  refine wpAnyH_ready (rs := [13]) Z2o0 (by simp) (ac13 (fun K hK => ?_) (AllReadyH.nil))
  focus go_simp
  focus (refine (G2.out _).mono ?_; rintro e w1 ⟨rfl, n2, rfl⟩)
  focus try simp only []
  refine hK.out _ _ ?_ (fun hHeld => ?_)
  · exact Z2o1
  focus clear hK K; try simp only [Act.put, List.setIfInBounds_toArray, List.set_cons_zero, List.set_cons_succ]
  iterate 2 (first | refine tk14.go ?_ | refine tk15.go ?_)
  refine wpAnyH_done Z2o0 ?_ _; rotate_left 1
  go_upto_region 2 with (fail)
  refine wp_region_held_drew (S := (fun w' => w'.cell? ⟨ba, 0, none⟩ = some (.int .i64 p) ∧ w'.cell? ⟨ba, 1, none⟩ = some (.int .i64 q) ∧ w'.cell? ⟨bb, 0, none⟩ = some (.int .i64 r) ∧ w'.cell? ⟨bb, 1, none⟩ = some (.int .i64 s))) Z2o0 ?_ (fun hHeld => ?_)
  · exact Z2o1
  iterate 6 (first | refine tk0.go ?_ | refine tk1.go ?_ | refine tk3.go ?_ | refine tk5.go ?_ | refine tk6.go ?_ | refine tk8.go ?_)
  refine wpAnyH_ready (rs := [2]) Z2o0 (by simp) (ac2 (fun K hK => ?_) (AllReadyH.nil))
  focus go_simp
  focus (refine (sp.out _).mono ?_; rintro e w1 ⟨rfl, rfl⟩)
  focus try simp only []
  refine hK.out _ _ ?_ (fun hHeld => ?_)
  · exact Z2o1
  focus clear hK K; try simp only [Act.put, List.setIfInBounds_toArray, List.set_cons_zero, List.set_cons_succ]
  refine tk4.go ?_
  refine wpAnyH_ready (rs := [7]) Z2o0 (by simp) (ac7 (fun K hK => ?_) (AllReadyH.nil))
  focus go_simp
  focus (refine (sr.out _).mono ?_; rintro e w1 ⟨rfl, rfl⟩)
  focus try simp only []
  refine hK.out _ _ ?_ (fun hHeld => ?_)
  · exact Z2o1
  focus clear hK K; try simp only [Act.put, List.setIfInBounds_toArray, List.set_cons_zero, List.set_cons_succ]
  refine tk9.go ?_
  refine wpAnyH_ready (rs := [10]) Z2o0 (by simp) (ac10 (fun K hK => ?_) (AllReadyH.nil))
  focus go_simp
  focus (refine (MU.out _).mono ?_; rintro e w1 ⟨rfl, rfl⟩)
  focus try simp only []
  refine hK.out _ _ ?_ (fun hHeld => ?_)
  · exact Z2o1
  focus clear hK K; try simp only [Act.put, List.setIfInBounds_toArray, List.set_cons_zero, List.set_cons_succ]
  iterate 5 (first | refine tk11.go ?_ | refine tk12.go ?_ | refine tk13.go ?_ | refine tk14.go ?_ | refine tk15.go ?_)
  refine wpAnyH_done Z2o0 ?_ _; rotate_left 1
  go_upto_region 3 with (fail)
  refine wp_region_held_drew (S := (fun w' => w'.cell? ⟨ba, 0, none⟩ = some (.int .i64 p) ∧ w'.cell? ⟨ba, 1, none⟩ = some (.int .i64 q) ∧ w'.cell? ⟨bb, 0, none⟩ = some (.int .i64 r) ∧ w'.cell? ⟨bb, 1, none⟩ = some (.int .i64 s))) Z2o0 ?_ (fun hHeld => ?_)
  · exact Z2o1
  iterate 20 (first | refine tk0.go ?_ | refine tk1.go ?_ | refine tk2.go ?_ | refine tk3.go ?_ | refine tk4.go ?_ | refine tk5.go ?_ | refine tk6.go ?_ | refine tk7.go ?_ | refine tk8.go ?_ | refine tk9.go ?_ | refine tk10.go ?_ | refine tk11.go ?_ | refine tk12.go ?_ | refine tk13.go ?_ | refine tk14.go ?_ | refine tk15.go ?_ | refine tk16.go ?_ | refine tk17.go ?_ | refine tk18.go ?_ | refine tk19.go ?_)
  refine wpAnyH_ready (rs := [20]) Z2o0 (by simp) (ac20 (fun K hK => ?_) (AllReadyH.nil))
  focus go_simp
  focus (refine (PR.out _).mono ?_; rintro e w1 ⟨rfl, rfl⟩)
  focus try simp only []
  refine hK.out _ _ ?_ (fun hHeld => ?_)
  · exact Z2o1
  focus clear hK K; try simp only [Act.put, List.setIfInBounds_toArray, List.set_cons_zero, List.set_cons_succ]
  refine wpAnyH_ready (rs := [21]) Z2o0 (by simp) (ac21 (fun K hK => ?_) (AllReadyH.nil))
  focus go_simp
  focus (refine (RR.out _).mono ?_; rintro e w5 ⟨rfl, hb5⟩; have K0 : w5.cell? ⟨w.heap.size, 0, none⟩ = some (.int .i64 0) := keepcell hb5 (by simp [go_sem, hz]; done); have K1 : w5.cell? ⟨w.heap.size, 1, none⟩ = some (.int .i64 0) := keepcell hb5 (by simp [go_sem, hz]; done); have F0 : w5.frozen? ⟨w.heap.size, 0, none⟩ = false := (hb5.frozen (p := ⟨w.heap.size, 0, none⟩) Z2o2).trans (by simp [go_sem, hz]; done); have F1 : w5.frozen? ⟨w.heap.size, 1, none⟩ = false := (hb5.frozen (p := ⟨w.heap.size, 1, none⟩) Z2o2).trans (by simp [go_sem, hz]; done))
  focus try simp only []
  refine hK.out _ _ ?_ (fun hHeld => ?_)
  · exact ⟨keepcell hb5 (keepcell (W := w) Z2o3 ca), keepcell hb5 (keepcell (W := w) Z2o3 ca1), keepcell hb5 (keepcell (W := w) Z2o3 cb), keepcell hb5 (keepcell (W := w) Z2o3 cb1)⟩
  focus clear hK K; try simp only [Act.put, List.setIfInBounds_toArray, List.set_cons_zero, List.set_cons_succ]
  refine wpAnyH_ready (rs := [22]) Z2o0 (by simp) (ac22 (fun K hK => ?_) (AllReadyH.nil))
  focus go_simp
  refine hK.out _ _ ?_ (fun hHeld => ?_)
  · exact ⟨keepset (by omega) (keepset (by omega) (keepcell hb5 (keepcell (W := w) Z2o3 ca))), keepset (by omega) (keepset (by omega) (keepcell hb5 (keepcell (W := w) Z2o3 ca1))), keepset (by omega) (keepset (by omega) (keepcell hb5 (keepcell (W := w) Z2o3 cb))), keepset (by omega) (keepset (by omega) (keepcell hb5 (keepcell (W := w) Z2o3 cb1)))⟩
  focus clear hK K; try simp only [Act.put, List.setIfInBounds_toArray, List.set_cons_zero, List.set_cons_succ]
  refine wpAnyH_done Z2o0 ?_ _; rotate_left 1
  go_wp2
  have hbw : Below w.heap.size w w5 := by refine Below.trans ?_ (hb5.mono Z2o2); exact Z2o3
  exact bodyPost_ret (v := RV X (qh * sg')) (by simp [results, Try.results65, go_sem, K0, K1]) rfl ⟨rfl, Z2o3⟩

set_option maxHeartbeats 4000000 in
theorem times1_no (p q r s g h pg rh qh sg' : Int) (ba bb : Nat) (w : World) (hp : In64 p) (hq : In64 q) (hr : In64 r) (hs : In64 s) (q0 : 0 < q) (s0 : 0 < s)
    (ca : w.cell? ⟨ba, 0, none⟩ = some (.int .i64 p)) (ca1 : w.cell? ⟨ba, 1, none⟩ = some (.int .i64 q)) (cb : w.cell? ⟨bb, 0, none⟩ = some (.int .i64 r)) (cb1 : w.cell? ⟨bb, 1, none⟩ = some (.int .i64 s))
    (hg : (Int.gcd p s : Int) = g) (hh : (Int.gcd r q : Int) = h) (hpg : sz p / g = pg) (hrh : sz r / h = rh) (hqh : q / h = qh) (hsg : s / g = sg')
    (X : Int) (hX : (if sg p r = true then -(pg * rh) else pg * rh) = X) (hfit : ¬ (In64 X ∧ In64 (qh * sg'))) :
    Calls Try.prog 65 #[.pointer (some ⟨ba, 0, none⟩), .pointer (some ⟨bb, 0, none⟩)] w fun e w' => e = .panicked LargeP ∧ Below w.heap.size w w' := by
  have sp := Lib.hid (fun W0 => size_any p W0 hp.1 hp.2)
  have sq := Lib.hid (fun W0 => size_any q W0 hq.1 hq.2)
  have sr := Lib.hid (fun W0 => size_any r W0 hr.1 hr.2)
  have ss := Lib.hid (fun W0 => size_any s W0 hs.1 hs.2)
  have zq : sz q = q := by unfold sz; rw [if_neg (by omega)]
  have zs : sz s = s := by unfold sz; rw [if_neg (by omega)]
  rw [zq] at sq
  rw [zs] at ss
  have a1 := sz_nonneg p
  have a2 := sz_le hp.1 hp.2
  have b1 := sz_nonneg r
  have b2 := sz_le hr.1 hr.2
  have qlt := hq.2
  have slt := hs.2
  have G1 := Lib.hid (fun W0 => gcd_any (sz p) s W0 a1 (by omega) (by omega) (by omega))
  have G2 := Lib.hid (fun W0 => gcd_any (sz r) q W0 b1 (by omega) (by omega) (by omega))
  rw [show Int.gcd (sz p) s = Int.gcd p s by rw [← gcd_sz p s, zs], hg] at G1
  rw [show Int.gcd (sz r) q = Int.gcd r q by rw [← gcd_sz r q, zq], hh] at G2
  have g0 : 0 < g := by rw [← hg]; exact gcd_pos (by omega)
  have h0 : 0 < h := by rw [← hh]; exact gcd_pos (by omega)
  have g1 : g ≤ s := by
    rw [← hg]
    have := Int.gcd_le_natAbs_right (a := p) (b := s) (by omega)
    omega
  have h1 : h ≤ q := by
    rw [← hh]
    have := Int.gcd_le_natAbs_right (a := r) (b := q) (by omega)
    omega
  have gn : ¬ g = 0 := by omega
  have hn : ¬ h = 0 := by omega
  have e1 : IntKind.u64.wrap ((sz p).tdiv g) = pg := by rw [div_spell a1 (by omega) g0, hpg]
  have e2 : IntKind.u64.wrap ((sz r).tdiv h) = rh := by rw [div_spell b1 (by omega) h0, hrh]
  have bp := ediv_bound a1 a2 g0
  have br := ediv_bound b1 b2 h0
  rw [hpg] at bp
  rw [hrh] at br
  have bq := ediv_bound (a := q) (by omega) (Int.le_refl _) h0
  have bs := ediv_bound (a := s) (by omega) (Int.le_refl _) g0
  rw [hqh] at bq
  rw [hsg] at bs
  have i1 : In64 qh := ⟨by omega, by omega⟩
  have i2 : In64 sg' := ⟨by omega, by omega⟩
  have wg' : IntKind.i64.wrap g = g := wrapi_in ⟨by omega, by omega⟩
  have wh' : IntKind.i64.wrap h = h := wrapi_in ⟨by omega, by omega⟩
  have e3 : q.tdiv h = qh := by rw [Int.tdiv_eq_ediv_of_nonneg (by omega), hqh]
  have e4 : s.tdiv g = sg' := by rw [Int.tdiv_eq_ediv_of_nonneg (by omega), hsg]
  have e5 := wrapi_in i1
  have e6 := wrapi_in i2
  have MU := Lib.hid (fun W0 => mul64_any pg rh W0 bp.1 (by omega) br.1 (by omega))
  have PR := Lib.hid (fun W0 => product_any qh sg' W0 i1.1 i1.2 i2.1 i2.2)
  have RR := Lib.hid (fun W0 => rat_no (hX ▸ wv_sizes (sg p r) bp.1 bp.2 br.1 br.2) (wv_mul i1 i2) hfit W0)
  have hsgn := sg_spell p r
  have hz : w.heap.size < w.heap.size + 1 := by omega
  have la := cell_lt ca
  have lb := cell_lt cb
  clear hp hq hr hs q0 s0 hg hh hpg hrh hqh hsg hfit hX zq zs a1 a2 b1 b2 qlt slt g0 h0 g1 h1 bp br bq bs i1 i2
  generalize pg * rh / 18446744073709551616 = hi at *
  generalize pg * rh % 18446744073709551616 = lo at *
  go_enter Try.func65, Try.ntmps65
  go_wp2
  refine wp_region_held_drew (S := (fun w' => w'.cell? ⟨ba, 0, none⟩ = some (.int .i64 p) ∧ w'.cell? ⟨ba, 1, none⟩ = some (.int .i64 q) ∧ w'.cell? ⟨bb, 0, none⟩ = some (.int .i64 r) ∧ w'.cell? ⟨bb, 1, none⟩ = some (.int .i64 s))) Z2o0 ?_ (fun hHeld => ?_)
  · exact Z2o1
  iterate 8 (first | refine tk0.go ?_ | refine tk1.go ?_ | refine tk3.go ?_ | refine tk4.go ?_ | refine tk7.go ?_ | refine tk8.go ?_ | refine tk10.go ?_ | refine tk11.go ?_)
  refine wpAnyH_ready (rs := [2]) Z2o0 (by simp) (ac2 (fun K hK => ?_) (AllReadyH.nil))
  focus go_simp
  focus (refine (sp.out _).mono ?_; rintro e w1 ⟨rfl, rfl⟩)
  focus try simp only []
  refine hK.out _ _ ?_ (fun hHeld => ?_)
  · exact Z2o1
  focus clear hK K; try simp only [Act.put, List.setIfInBounds_toArray, List.set_cons_zero, List.set_cons_succ]
  refine wpAnyH_ready (rs := [5]) Z2o0 (by simp) (ac5 (fun K hK => ?_) (AllReadyH.nil))
  focus go_simp
  focus (refine (ss.out _).mono ?_; rintro e w1 ⟨rfl, rfl⟩)
  focus try simp only []
  refine hK.out _ _ ?_ (fun hHeld => ?_)
  · exact Z2o1
  focus clear hK K; try simp only [Act.put, List.setIfInBounds_toArray, List.set_cons_zero, List.set_cons_succ]
  refine wpAnyH_ready (rs := [6]) Z2o0 (by simp) (ac6 (fun K hK => ?_) (AllReadyH.nil))
  focus go_simp
  focus (refine (G1.out _).mono ?_; rintro e w1 ⟨rfl, n1, rfl⟩)
  focus try simp only []
  refine hK.out _ _ ?_ (fun hHeld => ?_)
  · exact Z2o1
  focus clear hK K; try simp only [Act.put, List.setIfInBounds_toArray, List.set_cons_zero, List.set_cons_succ]
  refine wpAnyH_ready (rs := [9]) Z2o0 (by simp) (ac9 (fun K hK => ?_) (AllReadyH.nil))
  focus go_simp
  focus (refine (sr.out _).mono ?_; rintro e w1 ⟨rfl, rfl⟩)
  focus try simp only []
  refine hK.out _ _ ?_ (fun hHeld => ?_)
  · exact Z2o1
  focus clear hK K; try simp only [Act.put, List.setIfInBounds_toArray, List.set_cons_zero, List.set_cons_succ]
  refine wpAnyH_ready (rs := [12]) Z2o0 (by simp) (ac12 (fun K hK => ?_) (AllReadyH.nil))
  focus go_simp
  focus (refine (sq.out _).mono ?_; rintro e w1 ⟨rfl, rfl⟩)
  focus try simp only []
  refine hK.out _ _ ?_ (fun hHeld => ?_)
  · exact Z2o1
  focus clear hK K; try simp only [Act.put, List.setIfInBounds_toArray, List.set_cons_zero, List.set_cons_succ]
  refine wpAnyH_ready (rs := [13]) Z2o0 (by simp) (ac13 (fun K hK => ?_) (AllReadyH.nil))
  focus go_simp
  focus (refine (G2.out _).mono ?_; rintro e w1 ⟨rfl, n2, rfl⟩)
  focus try simp only []
  refine hK.out _ _ ?_ (fun hHeld => ?_)
  · exact Z2o1
  focus clear hK K; try simp only [Act.put, List.setIfInBounds_toArray, List.set_cons_zero, List.set_cons_succ]
  iterate 2 (first | refine tk14.go ?_ | refine tk15.go ?_)
  refine wpAnyH_done Z2o0 ?_ _; rotate_left 1
  go_upto_region 2 with (fail)
  refine wp_region_held_drew (S := (fun w' => w'.cell? ⟨ba, 0, none⟩ = some (.int .i64 p) ∧ w'.cell? ⟨ba, 1, none⟩ = some (.int .i64 q) ∧ w'.cell? ⟨bb, 0, none⟩ = some (.int .i64 r) ∧ w'.cell? ⟨bb, 1, none⟩ = some (.int .i64 s))) Z2o0 ?_ (fun hHeld => ?_)
  · exact Z2o1
  iterate 6 (first | refine tk0.go ?_ | refine tk1.go ?_ | refine tk3.go ?_ | refine tk5.go ?_ | refine tk6.go ?_ | refine tk8.go ?_)
  refine wpAnyH_ready (rs := [2]) Z2o0 (by simp) (ac2 (fun K hK => ?_) (AllReadyH.nil))
  focus go_simp
  focus (refine (sp.out _).mono ?_; rintro e w1 ⟨rfl, rfl⟩)
  focus try simp only []
  refine hK.out _ _ ?_ (fun hHeld => ?_)
  · exact Z2o1
  focus clear hK K; try simp only [Act.put, List.setIfInBounds_toArray, List.set_cons_zero, List.set_cons_succ]
  refine tk4.go ?_
  refine wpAnyH_ready (rs := [7]) Z2o0 (by simp) (ac7 (fun K hK => ?_) (AllReadyH.nil))
  focus go_simp
  focus (refine (sr.out _).mono ?_; rintro e w1 ⟨rfl, rfl⟩)
  focus try simp only []
  refine hK.out _ _ ?_ (fun hHeld => ?_)
  · exact Z2o1
  focus clear hK K; try simp only [Act.put, List.setIfInBounds_toArray, List.set_cons_zero, List.set_cons_succ]
  refine tk9.go ?_
  refine wpAnyH_ready (rs := [10]) Z2o0 (by simp) (ac10 (fun K hK => ?_) (AllReadyH.nil))
  focus go_simp
  focus (refine (MU.out _).mono ?_; rintro e w1 ⟨rfl, rfl⟩)
  focus try simp only []
  refine hK.out _ _ ?_ (fun hHeld => ?_)
  · exact Z2o1
  focus clear hK K; try simp only [Act.put, List.setIfInBounds_toArray, List.set_cons_zero, List.set_cons_succ]
  iterate 5 (first | refine tk11.go ?_ | refine tk12.go ?_ | refine tk13.go ?_ | refine tk14.go ?_ | refine tk15.go ?_)
  refine wpAnyH_done Z2o0 ?_ _; rotate_left 1
  go_upto_region 3 with (fail)
  refine wp_region_held_drew (S := (fun w' => w'.cell? ⟨ba, 0, none⟩ = some (.int .i64 p) ∧ w'.cell? ⟨ba, 1, none⟩ = some (.int .i64 q) ∧ w'.cell? ⟨bb, 0, none⟩ = some (.int .i64 r) ∧ w'.cell? ⟨bb, 1, none⟩ = some (.int .i64 s))) Z2o0 ?_ (fun hHeld => ?_)
  · exact Z2o1
  iterate 20 (first | refine tk0.go ?_ | refine tk1.go ?_ | refine tk2.go ?_ | refine tk3.go ?_ | refine tk4.go ?_ | refine tk5.go ?_ | refine tk6.go ?_ | refine tk7.go ?_ | refine tk8.go ?_ | refine tk9.go ?_ | refine tk10.go ?_ | refine tk11.go ?_ | refine tk12.go ?_ | refine tk13.go ?_ | refine tk14.go ?_ | refine tk15.go ?_ | refine tk16.go ?_ | refine tk17.go ?_ | refine tk18.go ?_ | refine tk19.go ?_)
  refine wpAnyH_ready (rs := [20]) Z2o0 (by simp) (ac20 (fun K hK => ?_) (AllReadyH.nil))
  focus go_simp
  focus (refine (PR.out _).mono ?_; rintro e w1 ⟨rfl, rfl⟩)
  focus try simp only []
  refine hK.out _ _ ?_ (fun hHeld => ?_)
  · exact Z2o1
  focus clear hK K; try simp only [Act.put, List.setIfInBounds_toArray, List.set_cons_zero, List.set_cons_succ]
  refine wpAnyH_ready (rs := [21]) Z2o0 (by simp) (ac21 (fun K hK => ?_) (AllReadyH.nil))
  focus go_simp
  · (refine (RR.out _).mono ?_; rintro e w5 ⟨rfl, hb5⟩; exact ⟨rfl, rfl, by refine Below.trans ?_ (hb5.mono Z2o2); exact Z2o3⟩)

end Go.Proofs.Ytdkbnbebioflaaa.Num
end
