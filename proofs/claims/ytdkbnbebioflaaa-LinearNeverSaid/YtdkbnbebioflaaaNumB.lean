/- Contracts of num's wide numbers: of, neg, product, less, plus. -/
import Derived.Test.YtdkbnbebioflaaaNumA
import Derived.Test.YtdkbnbebioflaaaNumP
namespace Go.Proofs
theorem Z280 {p : Prop} (h : p := by repeat (first | exact Below.refl _ _ | with_reducible assumption | refine Below.alloc ?_ (by first | exact Nat.le_refl _ | (simp; done) | (simp; omega) | omega) _ | refine Below.setCell ?_ (by first | exact Nat.le_refl _ | (simp; done) | (simp; omega) | omega) _ | refine Below.drew ?_ | refine bdrewN ?_ _)) : p := h
theorem Z281 {p : Prop} (h : p := by simp [results, Try.results71, go_sem, W]) : p := h
end Go.Proofs
namespace Go.Proofs.Ytdkbnbebioflaaa.Num
open Go.RowKit
set_option linter.unusedVariables false
set_option linter.unusedSimpArgs false

/-- A wide number's value. -/
def WV (x : Int) (b : Bool) (h l : Int) : Prop := 0 ≤ h ∧ h < 18446744073709551616 ∧ 0 ≤ l ∧ l < 18446744073709551616 ∧ x = if b = true then -(h * 18446744073709551616 + l) else h * 18446744073709551616 + l
@[reducible, go_sem] def W (b : Bool) (h l : Int) : Value := .agg #[.bool b, .int .u64 h, .int .u64 l]
def IsW (x : Int) (v : Value) : Prop := ∃ b h l, v = W b h l ∧ WV x b h l

theorem of_any (a : Int) (w : World) (h : -9223372036854775808 ≤ a) (h2 : a < 9223372036854775808) :
    Calls Try.prog 70 #[.int .i64 a] w fun e w' => e = .returned (W (decide (a < 0)) 0 (sz a)) ∧ Below w.heap.size w w' := by
  go_enter Try.func70, Try.ntmps70
  go_wp2_with (go_at_call 15; refine (size_any _ _ h h2).mono ?_; rintro e w' ⟨rfl, rfl⟩)
  exact bodyPost_ret (v := W (decide (a < 0)) 0 (sz a)) (by simp [results, Try.results70, go_sem, W]) rfl ⟨rfl, Z280⟩

theorem neg_any (b : Bool) (h l : Int) (w : World) :
    Calls Try.prog 72 #[W b h l] w fun e w' => e = .returned (W (!b) h l) ∧ w' = (w.alloc (.cells #[.bool b, .int .u64 h, .int .u64 l] 49)).alloc (.cells #[.bool (!b), .int .u64 h, .int .u64 l] 49) := by
  unfold W
  go_enter Try.func72, Try.ntmps72
  go_wp2
  exact bodyPost_ret (v := W (!b) h l) (by simp [results, Try.results72, go_sem, W]) rfl ⟨rfl, rfl⟩

theorem less_any (b h l b2 h2 l2) (w : World) :
    Calls Try.prog 82 #[W b h l, W b2 h2 l2] w fun e w' => e = .returned (.bool (decide (h < h2 ∨ (h = h2 ∧ l < l2)))) ∧ w' = (w.alloc (.cells #[.bool b, .int .u64 h, .int .u64 l] 49)).alloc (.cells #[.bool b2, .int .u64 h2, .int .u64 l2] 49) := by
  unfold W
  by_cases c1 : h < h2
  · have e1 : decide (h < h2) = true := decide_eq_true c1
    have hf : decide (h < h2 ∨ (h = h2 ∧ l < l2)) = true := decide_eq_true (.inl c1)
    rw [hf]
    clear hf
    go_enter Try.func82, Try.ntmps82
    go_wp2
    go_ret
    exact ⟨rfl, rfl⟩
  · have e1 : decide (h < h2) = false := decide_eq_false c1
    by_cases c2 : h = h2
    · subst c2
      have hf : decide (h < h ∨ (h = h ∧ l < l2)) = decide (l < l2) := by simp
      rw [hf]
      clear hf
      go_enter Try.func82, Try.ntmps82
      go_wp2
      go_ret
      exact ⟨rfl, rfl⟩
    · have e2 : (h == h2) = false := beq_eq_false_iff_ne.2 c2
      have hf : decide (h < h2 ∨ (h = h2 ∧ l < l2)) = false := decide_eq_false (by rintro (x | x); exact c1 x; exact c2 x.1)
      rw [hf]
      clear hf c2
      go_enter Try.func82, Try.ntmps82
      go_wp2
      go_ret
      exact ⟨rfl, rfl⟩

theorem mul64_any (x y : Int) (w : World) (hx : 0 ≤ x) (hx2 : x < 18446744073709551616) (hy : 0 ≤ y) (hy2 : y < 18446744073709551616) :
    Calls Try.prog 66 #[.int .u64 x, .int .u64 y] w fun e w' => e = .returned (.tuple #[.int .u64 (x * y / 18446744073709551616), .int .u64 (x * y % 18446744073709551616)]) ∧ w' = w := by
  have H := Lib.hid (mul_hi hx hx2 hy hy2)
  go_enter Try.func66, Try.ntmps66
  go_wp2
  go_ret2
  exact ⟨congrArg Ending.returned (congrArg Value.tuple (by rw [show x * y / 18446744073709551616 = _ from H.out.symm, ← mul_lo]; rfl)), rfl⟩

/-- A product's sign. -/
def sg (a b : Int) : Bool := decide (a < 0) != decide (b < 0)

/-- A product is exact. -/
theorem product_any (a b : Int) (w : World) (h : -9223372036854775808 ≤ a) (h2 : a < 9223372036854775808) (k : -9223372036854775808 ≤ b) (k2 : b < 9223372036854775808) :
    Calls Try.prog 67 #[.int .i64 a, .int .i64 b] w fun e w' =>
      e = .returned (W (sg a b) (sz a * sz b / 18446744073709551616) (sz a * sz b % 18446744073709551616)) ∧ w' = w.alloc (.cells #[.bool (sg a b), .int .u64 (sz a * sz b / 18446744073709551616), .int .u64 (sz a * sz b % 18446744073709551616)] 49) := by
  have a1 := sz_nonneg a
  have a2 := sz_le h h2
  have b1 := sz_nonneg b
  have b2 := sz_le k k2
  go_enter Try.func67, Try.ntmps67
  go_wp2_with fail
  refine (size_any _ _ h h2).mono ?_
  rintro e w' ⟨rfl, rfl⟩
  go_wp2_with fail
  refine (size_any _ _ k k2).mono ?_
  rintro e w' ⟨rfl, rfl⟩
  go_wp2_with fail
  refine (mul64_any _ _ _ a1 (by omega) b1 (by omega)).mono ?_
  rintro e w' ⟨rfl, rfl⟩
  go_wp2
  exact bodyPost_ret (v := W (sg a b) (sz a * sz b / 18446744073709551616) (sz a * sz b % 18446744073709551616)) (by simp [results, Try.results67, go_sem, W, sg] <;> cases decide (a < 0) <;> cases decide (b < 0) <;> rfl) rfl ⟨rfl, by simp [sg] <;> cases decide (a < 0) <;> cases decide (b < 0) <;> rfl⟩

theorem run_add (x y c : Int) (hx : 0 ≤ x) (hy : 0 ≤ y) (hc0 : 0 ≤ c) (hc : c ≤ 1) (w : World) :
    (callFunc 81 #[.int .u64 x, .int .u64 y, .int .u64 c]).run Try.prog w =
      .ok (.value (.tuple #[.int .u64 ((x + y + c) % 18446744073709551616), .int .u64 ((x + y + c) / 18446744073709551616)])) w := by
  rw [run_callFunc_extern Try.func81 (by kernel_rfl) (by kernel_rfl) (by kernel_rfl) (e := add64Entry) (by kernel_rfl), run_add64 x y c hx hy hc0 hc]
  rfl

theorem run_sub (x y b : Int) (hx : 0 ≤ x) (hy : 0 ≤ y) (hy2 : y < 18446744073709551616) (hc0 : 0 ≤ b) (hc : b ≤ 1) (w : World) :
    (callFunc 83 #[.int .u64 x, .int .u64 y, .int .u64 b]).run Try.prog w =
      .ok (.value (.tuple #[.int .u64 ((x - y - b) % 18446744073709551616), .int .u64 (if x < y + b then 1 else 0)])) w := by
  obtain ⟨X, rfl⟩ := Int.eq_ofNat_of_zero_le hx
  obtain ⟨Y, rfl⟩ := Int.eq_ofNat_of_zero_le hy
  obtain ⟨B, rfl⟩ := Int.eq_ofNat_of_zero_le hc0
  rw [run_callFunc_extern Try.func83 (by kernel_rfl) (by kernel_rfl) (by kernel_rfl) (e := Go.Proofs.sub64Entry) (by kernel_rfl), Go.Proofs.run_sub64 X Y B (by omega)]
  simp only [Result.andThen]
  have e1 : (((X + 18446744073709551616 - Y - B) % 18446744073709551616 : Nat) : Int) = ((X : Int) - Y - B) % 18446744073709551616 := by omega
  have e2 : ((if X < Y + B then 1 else 0 : Nat) : Int) = if (X : Int) < Y + B then 1 else 0 := by
    by_cases h : X < Y + B
    · rw [if_pos h, if_pos (by omega)]; rfl
    · rw [if_neg h, if_neg (by omega)]; rfl
  rw [e1, e2]

theorem plus_same (b : Bool) (h l h2 l2 : Int) (w : World) (h0 : 0 ≤ h) (l0 : 0 ≤ l) (l1 : l < 18446744073709551616) (k0 : 0 ≤ h2) (m0 : 0 ≤ l2) (m1 : l2 < 18446744073709551616) :
    Calls Try.prog 71 #[W b h l, W b h2 l2] w fun e w' =>
      e = .returned (W b ((h + h2 + (l + l2) / 18446744073709551616) % 18446744073709551616) ((l + l2) % 18446744073709551616)) ∧ Below w.heap.size w w' := by
  unfold W
  have r1 := run_add l l2 0 l0 m0 (by omega) (by omega)
  rw [Int.add_zero] at r1
  have r2 := run_add h h2 ((l + l2) / 18446744073709551616) h0 k0 (by omega) (by omega)
  go_enter Try.func71, Try.ntmps71
  go_wp2
  exact bodyPost_ret (v := W b ((h + h2 + (l + l2) / 18446744073709551616) % 18446744073709551616) ((l + l2) % 18446744073709551616)) Z281 rfl ⟨rfl, Z280⟩

theorem plus_less (b : Bool) (h l h2 l2 : Int) (w : World) (h0 : 0 ≤ h) (h1 : h < 18446744073709551616) (l0 : 0 ≤ l) (l1 : l < 18446744073709551616) (k0 : 0 ≤ h2) (m0 : 0 ≤ l2) (m1 : l2 < 18446744073709551616) (hlt : h < h2 ∨ (h = h2 ∧ l < l2)) :
    Calls Try.prog 71 #[W b h l, W (!b) h2 l2] w fun e w' =>
      e = .returned (W (!b) ((h2 - h - (if l2 < l then 1 else 0)) % 18446744073709551616) ((l2 - l) % 18446744073709551616)) ∧ Below w.heap.size w w' := by
  have hd : decide (h < h2 ∨ (h = h2 ∧ l < l2)) = true := decide_eq_true hlt
  have hb : (b == !b) = false := by cases b <;> rfl
  have r1 := run_sub l2 l 0 m0 l0 l1 (by omega) (by omega)
  rw [Int.sub_zero, Int.add_zero] at r1
  have r2 := run_sub h2 h (if l2 < l then 1 else 0) k0 h0 h1 (by split <;> omega) (by split <;> omega)
  have H := Lib.hid (show ∃ c : Int, (if l2 < l then 1 else 0) = c from ⟨_, rfl⟩)
  obtain ⟨c, hc⟩ := H.out
  clear H
  rw [hc] at r1 r2 ⊢
  have hc' := Lib.hid hc
  clear hc hlt
  generalize (if h2 < h + c then (1 : Int) else 0) = c2 at r2
  have hless := fun W0 => less_any b h l (!b) h2 l2 W0
  rw [hd] at hless
  have hless' := Lib.hid hless
  clear hless hd
  unfold W
  go_enter Try.func71, Try.ntmps71
  go_wp2_with fail
  refine (hless'.out _).mono ?_
  rintro e w1 ⟨rfl, rfl⟩
  go_wp2
  exact bodyPost_ret (v := W (!b) ((h2 - h - c) % 18446744073709551616) ((l2 - l) % 18446744073709551616)) Z281 rfl ⟨rfl, Z280⟩

theorem plus_more (b : Bool) (h l h2 l2 : Int) (w : World) (h0 : 0 ≤ h) (h1 : h < 18446744073709551616) (l0 : 0 ≤ l) (l1 : l < 18446744073709551616) (k0 : 0 ≤ h2) (k1 : h2 < 18446744073709551616) (m0 : 0 ≤ l2) (m1 : l2 < 18446744073709551616) (hlt : ¬ (h < h2 ∨ (h = h2 ∧ l < l2))) :
    Calls Try.prog 71 #[W b h l, W (!b) h2 l2] w fun e w' =>
      e = .returned (W b ((h - h2 - (if l < l2 then 1 else 0)) % 18446744073709551616) ((l - l2) % 18446744073709551616)) ∧ Below w.heap.size w w' := by
  have hd : decide (h < h2 ∨ (h = h2 ∧ l < l2)) = false := decide_eq_false hlt
  have hb : (b == !b) = false := by cases b <;> rfl
  have r1 := run_sub l l2 0 l0 m0 m1 (by omega) (by omega)
  rw [Int.sub_zero, Int.add_zero] at r1
  have r2 := run_sub h h2 (if l < l2 then 1 else 0) h0 k0 k1 (by split <;> omega) (by split <;> omega)
  have H := Lib.hid (show ∃ c : Int, (if l < l2 then 1 else 0) = c from ⟨_, rfl⟩)
  obtain ⟨c, hc⟩ := H.out
  clear H
  rw [hc] at r1 r2 ⊢
  have hc' := Lib.hid hc
  clear hc hlt
  generalize (if h < h2 + c then (1 : Int) else 0) = c2 at r2
  have hless := fun W0 => less_any b h l (!b) h2 l2 W0
  rw [hd] at hless
  have hless' := Lib.hid hless
  clear hless hd
  unfold W
  go_enter Try.func71, Try.ntmps71
  go_wp2_with fail
  refine (hless'.out _).mono ?_
  rintro e w1 ⟨rfl, rfl⟩
  go_wp2
  exact bodyPost_ret (v := W b ((h - h2 - c) % 18446744073709551616) ((l - l2) % 18446744073709551616)) Z281 rfl ⟨rfl, Z280⟩

/-- A sum that has room. -/
theorem plus_any (x y : Int) (b h l b2 h2 l2) (w : World) (hx : WV x b h l) (hy : WV y b2 h2 l2)
    (hr : h * 18446744073709551616 + l + (h2 * 18446744073709551616 + l2) < 340282366920938463463374607431768211456) :
    Calls Try.prog 71 #[W b h l, W b2 h2 l2] w fun e w' => (∃ b3 h3 l3, e = .returned (W b3 h3 l3) ∧ WV (x + y) b3 h3 l3) ∧ Below w.heap.size w w' := by
  obtain ⟨h0, h1, l0, l1, hx⟩ := hx
  obtain ⟨k0, k1, m0, m1, hy⟩ := hy
  by_cases hb : b = b2
  · subst hb
    refine (plus_same b h l h2 l2 w h0 l0 l1 k0 m0 m1).mono ?_
    rintro e w' ⟨rfl, hw⟩
    refine ⟨⟨_, _, _, rfl, by omega, by omega, by omega, by omega, ?_⟩, hw⟩
    rw [hx, hy]
    split <;> omega
  · obtain rfl : b2 = !b := by cases b <;> cases b2 <;> simp_all
    by_cases hlt : h < h2 ∨ (h = h2 ∧ l < l2)
    · refine (plus_less b h l h2 l2 w h0 h1 l0 l1 k0 m0 m1 hlt).mono ?_
      rintro e w' ⟨rfl, hw⟩
      refine ⟨⟨_, _, _, rfl, by omega, by omega, by omega, by omega, ?_⟩, hw⟩
      rw [hx, hy]
      cases b <;> simp <;> split <;> omega
    · refine (plus_more b h l h2 l2 w h0 h1 l0 l1 k0 k1 m0 m1 hlt).mono ?_
      rintro e w' ⟨rfl, hw⟩
      refine ⟨⟨_, _, _, rfl, by omega, by omega, by omega, by omega, ?_⟩, hw⟩
      rw [hx, hy]
      cases b <;> simp <;> split <;> omega

end Go.Proofs.Ytdkbnbebioflaaa.Num
