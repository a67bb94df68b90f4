/- Contracts of num: sum at large numbers. -/
import Derived.Test.YtdkbnbebioflaaaNumN
import Derived.Test.YtdkbnbebioflaaaNumU
namespace Go.Proofs
theorem Z2s0 {p : Prop} (h : p := by simp [go_sem]) : p := h
theorem Z2s1 {p : Prop} (h : p := by first | exact Nat.le_refl _ | (simp; done) | (simp; omega) | omega) : p := h
theorem Z2s2 {p : Prop} (h : p := by repeat (first | exact Below.refl _ _ | with_reducible assumption | refine Below.alloc ?_ (by first | exact Nat.le_refl _ | (simp; done) | (simp; omega) | omega) _ | refine Below.setCell ?_ (by first | exact Nat.le_refl _ | (simp; done) | (simp; omega) | omega) _ | refine Below.drew ?_ | refine bdrewN ?_ _)) : p := h
end Go.Proofs
namespace Go.Proofs.Ytdkbnbebioflaaa.Num
open Go.RowKit
set_option linter.unusedVariables false
set_option linter.unusedSimpArgs false

theorem cf_sum1 (args : Array Value) (w : World) : (callFunc 76 args).run Try.prog w = .ok (.enter 76 args) w := by kernel_rfl

/-- Both, if both fit. -/
def both (x y : Int) : Int × Int × Bool := if In64 x ∧ In64 y then (x, y, true) else (0, 0, false)

/-- What sum comes to by its own words. -/
def sumT (p q r s : Int) (t : Bool) : Int := p * (s / (Int.gcd q s : Int)) + (if t = true then -(r * (q / (Int.gcd q s : Int))) else r * (q / (Int.gcd q s : Int)))
def sumG (p q r s : Int) (t : Bool) : Int := (Int.gcd (sz (sumT p q r s t) % (Int.gcd q s : Int)) (Int.gcd q s) : Int)
def sumL (p q r s : Int) (t : Bool) : Int × Int × Bool := both (quo0 (sumT p q r s t) (sumG p q r s t)) (q / (Int.gcd q s : Int) * (s / sumG p q r s t))

theorem sum1_fits (p q r s : Int) (t : Bool) (w : World) (ba bb bt : Nat) (hp : In64 p) (hq : In64 q) (hr : In64 r) (hs : In64 s) (q0 : 0 < q) (s0 : 0 < s)
    (ca : w.cell? ⟨ba, 0, none⟩ = some (.int .i64 p)) (ca1 : w.cell? ⟨ba, 1, none⟩ = some (.int .i64 q)) (cb : w.cell? ⟨bb, 0, none⟩ = some (.int .i64 r)) (cb1 : w.cell? ⟨bb, 1, none⟩ = some (.int .i64 s)) (ct : w.cell? ⟨bt, 0, none⟩ = some (.bool t)) :
    Calls Try.prog 12 #[.func (.func 76) #[] #[.pointer (some ⟨ba, 0, none⟩), .pointer (some ⟨bb, 0, none⟩), .pointer (some ⟨bt, 0, none⟩)]] w fun e w' => e = .returned (RB (sumL p q r s t)) ∧ Below w.heap.size w w' := by
  unfold sumL both
  by_cases hf : In64 (quo0 (sumT p q r s t) (sumG p q r s t)) ∧ In64 (q / (Int.gcd q s : Int) * (s / sumG p q r s t))
  · rw [if_pos hf]
    exact fitsR_ok _ _ _ _ w (cf_sum1 _) (fun W hW => sum1_ok p q r s _ _ _ t ba bb bt W hp hq hr hs q0 s0 (keepcell hW ca) (keepcell hW ca1) (keepcell hW cb) (keepcell hW cb1) (keepcell hW ct) (cell_lt (keepcell hW ca)) (cell_lt (keepcell hW cb)) (cell_lt (keepcell hW ct)) rfl rfl rfl _ _ _ rfl rfl rfl hf)
  · rw [if_neg hf]
    exact fitsR_no _ _ w (cf_sum1 _) (fun W hW => sum1_no p q r s _ _ _ t ba bb bt W hp hq hr hs q0 s0 (keepcell hW ca) (keepcell hW ca1) (keepcell hW cb) (keepcell hW cb1) (keepcell hW ct) (cell_lt (keepcell hW ca)) (cell_lt (keepcell hW cb)) (cell_lt (keepcell hW ct)) rfl rfl rfl _ _ _ rfl rfl rfl hf)

theorem smallB_cases (p q r s : Int) (h : ¬ (smallB p q = true ∧ smallB r s = true)) : smallB p q = false ∨ (smallB p q = true ∧ smallB r s = false) := by
  cases h1 : smallB p q with
  | false => exact .inl rfl
  | true => exact .inr ⟨rfl, by cases h2 : smallB r s with | false => rfl | true => exact absurd ⟨h1, h2⟩ h⟩

theorem sum_large (p q r s : Int) (t : Bool) (w : World) (hp : In64 p) (hq : In64 q) (hr : In64 r) (hs : In64 s) (q0 : 0 < q) (s0 : 0 < s) (hk : ¬ (smallB p q = true ∧ smallB r s = true)) :
    Calls Try.prog 61 #[RV p q, RV r s, .bool t] w fun e w' => e = .returned (RB (sumL p q r s t)) ∧ Below w.heap.size w w' := by
  have hmf := run_makeFunc
  have ff := Lib.hid (fun (W0 : World) (ba bb bt : Nat) => sum1_fits p q r s t W0 ba bb bt hp hq hr hs q0 s0)
  have e1 : decide (0 < q) = true := decide_eq_true q0
  have e2 : decide (0 < s) = true := decide_eq_true s0
  clear hp hq hr hs q0 s0
  generalize sumL p q r s t = z at *
  obtain ⟨x, y, b⟩ := z
  rcases smallB_cases p q r s hk with k1 | ⟨k1, k2⟩
  all_goals clear hk
  · go_enter Try.func61, Try.ntmps61
    go_wp2_with fail
    refine (right_any _ _ _).mono ?_
    rintro e w1 ⟨rfl, rfl⟩
    rw [e1]
    go_wp2_with fail
    refine (right_any _ _ _).mono ?_
    rintro e w1 ⟨rfl, rfl⟩
    rw [e2]
    go_wp2_with fail
    refine (small_any _ _ _).mono ?_
    rintro e w1 ⟨rfl, rfl⟩
    rw [k1]
    go_wp2_with fail
    refine (small_any _ _ _).mono ?_
    rintro e w1 ⟨rfl, rfl⟩
    rw [k1]
    go_wp2_with fail
    refine (ff.out _ _ _ _ Z2s0 Z2s0 Z2s0 Z2s0 Z2s0).mono ?_
    rintro e w1 ⟨rfl, hb1⟩
    obtain ⟨g1, g2, g3⟩ := bgrow hb1
    have hbw : Below w.heap.size w w1 := by refine Below.trans ?_ (hb1.mono Z2s1); exact Z2s2
    have z0 : w1.cell? ⟨w.heap.size + 1 + 1 + 1, 0, none⟩ = some (.int .i64 0) := by rw [g1 _ _ Z2s1]; simp [go_sem]
    have z1 : w1.cell? ⟨w.heap.size + 1 + 1 + 1, 1, none⟩ = some (.int .i64 0) := by rw [g1 _ _ Z2s1]; simp [go_sem]
    go_wp2
    exact bodyPost_ret (v := RB (x, y, b)) (by simp [results, Try.results61, go_sem, z0, z1]) rfl ⟨rfl, Z2s2⟩
  · go_enter Try.func61, Try.ntmps61
    go_wp2_with fail
    refine (right_any _ _ _).mono ?_
    rintro e w1 ⟨rfl, rfl⟩
    rw [e1]
    go_wp2_with fail
    refine (right_any _ _ _).mono ?_
    rintro e w1 ⟨rfl, rfl⟩
    rw [e2]
    go_wp2_with fail
    refine (small_any _ _ _).mono ?_
    rintro e w1 ⟨rfl, rfl⟩
    rw [k1]
    go_wp2_with fail
    refine (small_any _ _ _).mono ?_
    rintro e w1 ⟨rfl, rfl⟩
    rw [k2]
    go_wp2_with fail
    refine (small_any _ _ _).mono ?_
    rintro e w1 ⟨rfl, rfl⟩
    rw [k1]
    go_wp2_with fail
    refine (small_any _ _ _).mono ?_
    rintro e w1 ⟨rfl, rfl⟩
    rw [k2]
    go_wp2_with fail
    refine (ff.out _ _ _ _ Z2s0 Z2s0 Z2s0 Z2s0 Z2s0).mono ?_
    rintro e w1 ⟨rfl, hb1⟩
    obtain ⟨g1, g2, g3⟩ := bgrow hb1
    have hbw : Below w.heap.size w w1 := by refine Below.trans ?_ (hb1.mono Z2s1); exact Z2s2
    have z0 : w1.cell? ⟨w.heap.size + 1 + 1 + 1, 0, none⟩ = some (.int .i64 0) := by rw [g1 _ _ Z2s1]; simp [go_sem]
    have z1 : w1.cell? ⟨w.heap.size + 1 + 1 + 1, 1, none⟩ = some (.int .i64 0) := by rw [g1 _ _ Z2s1]; simp [go_sem]
    go_wp2
    exact bodyPost_ret (v := RB (x, y, b)) (by simp [results, Try.results61, go_sem, z0, z1]) rfl ⟨rfl, Z2s2⟩

end Go.Proofs.Ytdkbnbebioflaaa.Num
