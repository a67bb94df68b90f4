/- ashlarref01's products, quotients, sums and order of rats. -/
import Derived.Test.YtoodfkbciodapaaRefMake
namespace Go.Proofs.Ytoodfkbciodapaa.Big
set_option linter.unusedVariables false
set_option linter.unusedSimpArgs false
open Go.RowKit Go.Proofs.YtoodfkbciodapaaW.PrintWords Go.Proofs.Ytoodfkbciodapaa.Given Go.Proofs.Ytoodfkbciodapaa.Dig Go.Proofs.Ytoodfkbciodapaa.DigNumReckons Go.Proofs.Ytoodfkbciodapaa.Num

theorem len_of {x : Int} {n : Nat} (h : x.natAbs < 10 ^ n) (hn : n ≤ 1000) : (dg x.natAbs).length ≤ 1000 := Nat.le_trans (dg_len h) hn
theorem len1 {x : Int} (h : In64 x) : (dg x.natAbs).length ≤ 1000 := Nat.le_trans (len_in h) (by decide)
theorem abs1 {x : Int} (h : In64 x) : x.natAbs < 10 ^ 19 := by obtain ⟨h1, h2⟩ := h; omega
theorem abs2 {x y : Int} (hx : In64 x) (hy : In64 y) : (x * y).natAbs < 10 ^ 38 := by
  rw [Int.natAbs_mul, show (38 : Nat) = 19 + 19 from rfl, Nat.pow_add]
  exact Nat.mul_lt_mul_of_lt_of_lt (abs1 hx) (abs1 hy)
theorem len2 {x y : Int} (hx : In64 x) (hy : In64 y) : (dg (x * y).natAbs).length ≤ 1000 := len_of (abs2 hx hy) (by decide)
theorem len3 {x y z t : Int} (hx : In64 x) (hy : In64 y) (hz : In64 z) (ht : In64 t) : (dg (x * y + z * t).natAbs).length ≤ 1000 := by
  have h1 := abs2 hx hy
  have h2 := abs2 hz ht
  generalize x * y = a at *
  generalize z * t = b at *
  exact len_of (n := 39) (by omega) (by decide)
theorem len3n {x y z t : Int} (hx : In64 x) (hy : In64 y) (hz : In64 z) (ht : In64 t) : (dg (x * y + -(z * t)).natAbs).length ≤ 1000 := by
  have h1 := abs2 hx hy
  have h2 := abs2 hz ht
  generalize x * y = a at *
  generalize z * t = b at *
  exact len_of (n := 39) (by omega) (by decide)

set_option maxHeartbeats 4000000 in
theorem Product_big {p q r s x y : Int} {b : Bool} (w : World) (hp : In64 p) (hq : In64 q) (hr : In64 r) (hs : In64 s) (hM : mk (p * r) (q * s) = (x, y, b)) :
    Calls Try.prog 12 #[.int .i64 p, .int .i64 q, .int .i64 r, .int .i64 s] w fun e w' => e = .returned (.tuple #[.int .i64 x, .int .i64 y, .bool b]) ∧ Below w.heap.size w w' := by
  have HM := Lib.hid hM
  clear hM
  go_enter Try.func12, Try.ntmps12
  go_wp2_with fail
  refine (Of_big hp _).mono ?_
  rintro e w1 ⟨A1, n1, c1, rfl, h1, b1⟩
  go_wp2_with fail
  refine (Of_big hr _).mono ?_
  rintro e w2 ⟨A2, n2, c2, rfl, h2, b2⟩
  go_wp2_with fail
  refine (Times_big _ (h1.below b2) h2 (len1 hp) (len1 hr)).mono ?_
  rintro e w3 ⟨A3, n3, c3, rfl, h3, b3⟩
  go_wp2_with fail
  refine (Of_big hq _).mono ?_
  rintro e w4 ⟨A4, n4, c4, rfl, h4, b4⟩
  go_wp2_with fail
  refine (Of_big hs _).mono ?_
  rintro e w5 ⟨A5, n5, c5, rfl, h5, b5⟩
  go_wp2_with fail
  refine (Times_big _ (h4.below b5) h5 (len1 hq) (len1 hs)).mono ?_
  rintro e w6 ⟨A6, n6, c6, rfl, h6, b6⟩
  go_wp2_with fail
  refine (Make_big _ (((h3.below b4).below b5).below b6) h6 (len2 hp hr) (len2 hq hs) HM.out).mono ?_
  rintro e w7 ⟨rfl, b7⟩
  go_wp2
  refine bodyPost_ret (v := .tuple #[.int .i64 x, .int .i64 y, .bool b]) (by simp [results, Try.results12, go_sem]) rfl ⟨rfl, ?_⟩
  have c2 := b1.trans (b2.mono b1.size)
  have c3 := c2.trans (b3.mono c2.size)
  have c4 := c3.trans (b4.mono c3.size)
  have c5 := c4.trans (b5.mono c4.size)
  have c6 := c5.trans (b6.mono c5.size)
  exact c6.trans (b7.mono c6.size)

set_option maxHeartbeats 4000000 in
theorem Quotient_big {p q r s x y : Int} {b : Bool} (w : World) (hp : In64 p) (hq : In64 q) (hr : In64 r) (hs : In64 s) (hM : mk (p * s) (q * r) = (x, y, b)) :
    Calls Try.prog 13 #[.int .i64 p, .int .i64 q, .int .i64 r, .int .i64 s] w fun e w' => e = .returned (.tuple #[.int .i64 x, .int .i64 y, .bool b]) ∧ Below w.heap.size w w' := by
  have HM := Lib.hid hM
  clear hM
  go_enter Try.func13, Try.ntmps13
  go_wp2_with fail
  refine (Of_big hp _).mono ?_
  rintro e w1 ⟨A1, n1, c1, rfl, h1, b1⟩
  go_wp2_with fail
  refine (Of_big hs _).mono ?_
  rintro e w2 ⟨A2, n2, c2, rfl, h2, b2⟩
  go_wp2_with fail
  refine (Times_big _ (h1.below b2) h2 (len1 hp) (len1 hs)).mono ?_
  rintro e w3 ⟨A3, n3, c3, rfl, h3, b3⟩
  go_wp2_with fail
  refine (Of_big hq _).mono ?_
  rintro e w4 ⟨A4, n4, c4, rfl, h4, b4⟩
  go_wp2_with fail
  refine (Of_big hr _).mono ?_
  rintro e w5 ⟨A5, n5, c5, rfl, h5, b5⟩
  go_wp2_with fail
  refine (Times_big _ (h4.below b5) h5 (len1 hq) (len1 hr)).mono ?_
  rintro e w6 ⟨A6, n6, c6, rfl, h6, b6⟩
  go_wp2_with fail
  refine (Make_big _ (((h3.below b4).below b5).below b6) h6 (len2 hp hs) (len2 hq hr) HM.out).mono ?_
  rintro e w7 ⟨rfl, b7⟩
  go_wp2
  refine bodyPost_ret (v := .tuple #[.int .i64 x, .int .i64 y, .bool b]) (by simp [results, Try.results13, go_sem]) rfl ⟨rfl, ?_⟩
  have c2 := b1.trans (b2.mono b1.size)
  have c3 := c2.trans (b3.mono c2.size)
  have c4 := c3.trans (b4.mono c3.size)
  have c5 := c4.trans (b5.mono c4.size)
  have c6 := c5.trans (b6.mono c5.size)
  exact c6.trans (b7.mono c6.size)

theorem sign_zero {n : Nat} {x : Int} (h : n = (dg x.natAbs).length) : ((n : Int) = 0) = (x = 0) := by
  rw [h]
  apply propext
  rw [dg_len0]
  omega
set_option maxHeartbeats 4000000 in
theorem Cmp_big {p q r s c : Int} (w : World) (hp : In64 p) (hq : In64 q) (hr : In64 r) (hs : In64 s) (hc : cmpI (p * s - r * q) = c) :
    Calls Try.prog 15 #[.int .i64 p, .int .i64 q, .int .i64 r, .int .i64 s] w fun e w' => e = .returned (.int .i64 c) ∧ Below w.heap.size w w' := by
  have HC := Lib.hid hc
  clear hc
  have ln : (dg (-(r * q)).natAbs).length ≤ 1000 := by rw [Int.natAbs_neg]; exact len2 hr hq
  go_enter Try.func15, Try.ntmps15
  go_wp2_with fail
  refine (Of_big hp _).mono ?_
  rintro e w1 ⟨A1, n1, c1, rfl, h1, b1⟩
  go_wp2_with fail
  refine (Of_big hs _).mono ?_
  rintro e w2 ⟨A2, n2, c2, rfl, h2, b2⟩
  go_wp2_with fail
  refine (Times_big _ (h1.below b2) h2 (len1 hp) (len1 hs)).mono ?_
  rintro e w3 ⟨A3, n3, c3, rfl, h3, b3⟩
  go_wp2_with fail
  refine (Of_big hr _).mono ?_
  rintro e w4 ⟨A4, n4, c4, rfl, h4, b4⟩
  go_wp2_with fail
  refine (Of_big hq _).mono ?_
  rintro e w5 ⟨A5, n5, c5, rfl, h5, b5⟩
  go_wp2_with fail
  refine (Times_big _ (h4.below b5) h5 (len1 hr) (len1 hq)).mono ?_
  rintro e w6 ⟨A6, n6, c6, rfl, h6, b6⟩
  go_wp2_with fail
  refine (Turn_big _ h6 (len2 hr hq)).mono ?_
  rintro e w7 ⟨A7, n7, c7, rfl, h7, b7⟩
  go_wp2_with fail
  refine (Plus_big _ ((((h3.below b4).below b5).below b6).below b7) h7 (len2 hp hs) ln).mono ?_
  rintro e w8 ⟨A8, n8, c8, rfl, h8, b8⟩
  have B8 : Below w.heap.size w w8 := by
    have a2 := b1.trans (b2.mono b1.size)
    have a3 := a2.trans (b3.mono a2.size)
    have a4 := a3.trans (b4.mono a3.size)
    have a5 := a4.trans (b5.mono a4.size)
    have a6 := a5.trans (b6.mono a5.size)
    have a7 := a6.trans (b7.mono a6.size)
    exact a7.trans (b8.mono a7.size)
  have HB := Lib.hid B8
  have hz := sign_zero h8.1
  have hdn : dn (p * s + -(r * q)) = decide (p * s + -(r * q) < 0) := rfl
  have hcc := HC.out
  rw [show p * s - r * q = p * s + -(r * q) from rfl] at hcc
  unfold cmpI at hcc
  clear B8 b1 b2 b3 b4 b5 b6 b7 b8 h1 h2 h3 h4 h5 h6 h7 h8 HC ln
  generalize p * s + -(r * q) = x at *
  generalize dn x = d at *
  by_cases c1 : x < 0
  · rw [if_pos c1] at hcc
    have hn : ((n8 : Int) == 0) = false := by have : ¬ ((n8 : Int) = 0) := by rw [hz]; omega
                                              simpa using this
    rw [decide_eq_true c1] at hdn
    subst hcc hdn
    clear hz c1
    go_wp2
    go_ret
    exact ⟨rfl, by have := HB.out; exact below_alloc this _⟩
  · rw [if_neg c1] at hcc
    rw [decide_eq_false c1] at hdn
    by_cases c2 : x = 0
    · rw [if_pos c2] at hcc
      have hn : n8 = 0 := by have : ((n8 : Int) = 0) := by rw [hz]; exact c2
                             omega
      subst hcc hdn hn
      clear hz c1 c2
      go_wp2
      go_ret
      exact ⟨rfl, by have := HB.out; exact below_alloc this _⟩
    · rw [if_neg c2] at hcc
      have hn : ((n8 : Int) == 0) = false := by have : ¬ ((n8 : Int) = 0) := by rw [hz]; exact c2
                                                simpa using this
      subst hcc hdn
      clear hz c1 c2
      go_wp2
      go_ret
      exact ⟨rfl, by have := HB.out; exact below_alloc this _⟩
end Go.Proofs.Ytoodfkbciodapaa.Big
