/- math/bits.Div64, Rem64: a number of 128 bits, divided. -/
import Derived.Test.YtdkbnbebioflaaaNumJ
import Derived.Test.YtdkbnbebioflaaaShelf
namespace Go.Proofs.Ytdkbnbebioflaaa.Num
open Go.RowKit
set_option linter.unusedVariables false
set_option linter.unusedSimpArgs false

theorem div64_small (l y : Int) (w : World) (hl : 0 ≤ l) (hl2 : l < 18446744073709551616) (hy : 0 < y) (hy2 : y < 18446744073709551616) :
    Calls Try.prog 85 #[.int .u64 0, .int .u64 l, .int .u64 y] w fun e w' => e = .returned (.tuple #[.int .u64 (l / y), .int .u64 (l % y)]) ∧ w' = w.drew := by
  have e1 : (y == 0) = false := beq_eq_false_iff_ne.2 (by omega)
  have e2 : decide (y ≤ 0) = false := decide_eq_false (by omega)
  have hn : ¬ y = 0 := by omega
  have hd := Lib.hid (div_spell hl hl2 hy)
  have hd1 : IntKind.u64.wrap (l.tdiv y) = l / y := hd.out
  have hd2 : l.tmod y = l % y := Int.tmod_eq_emod_of_nonneg hl
  go_enter Try.func85, Try.ntmps85
  go_wp2
  go_region
  go_wp2
  go_ret2
  exact ⟨rfl, rfl⟩

set_option maxHeartbeats 4000000 in
theorem div64_walk (h l y s : Int) (w : World) (h0 : 0 < h) (hl : 0 ≤ l) (hl2 : l < 18446744073709551616) (hy : h < y) (hy2 : y < 18446744073709551616)
    (hs : 0 ≤ s) (hs2 : s < 64) (hbl : 64 - (Lib.bitLen y.toNat : Int) = s) (Y U L v1 v0 d1 d0 Q1 Q0 u2 qq rr : Int)
    (hYw : IntKind.u64.wrap (y * 2 ^ s.toNat) = Y) (hUw : bits BinOp.or .u64 (IntKind.u64.wrap (h * 2 ^ s.toNat)) (l / 2 ^ (64 - s).toNat) = U) (hLw : IntKind.u64.wrap (l * 2 ^ s.toNat) = L)
    (hv1 : Y / 4294967296 = v1) (hv0 : bits BinOp.and .u64 Y 4294967295 = v0) (hd1 : L / 4294967296 = d1) (hd0 : bits BinOp.and .u64 L 4294967295 = d0)
    (H1 : Half U v1 v0 Y d1 Q1)
    (hu2 : IntKind.u64.wrap (IntKind.u64.wrap (IntKind.u64.wrap (U * 4294967296) + d1) - IntKind.u64.wrap (Q1 * Y)) = u2)
    (H2 : Half u2 v1 v0 Y d0 Q0)
    (kQ1 : 0 ≤ Q1) (kQ1' : Q1 < 4294967296) (kQ0 : 0 ≤ Q0) (kQ0' : Q0 < 4294967296)
    (hqq : Q1 * 4294967296 + Q0 = qq)
    (hrr : IntKind.u64.wrap (IntKind.u64.wrap (IntKind.u64.wrap (u2 * 4294967296) + d0) - IntKind.u64.wrap (Q0 * Y)) / 2 ^ s.toNat = rr) :
    Calls Try.prog 85 #[.int .u64 h, .int .u64 l, .int .u64 y] w fun e w' => e = .returned (.tuple #[.int .u64 qq, .int .u64 rr]) ∧ w' = w := by
  have e1 : (y == 0) = false := beq_eq_false_iff_ne.2 (by omega)
  have e2 : decide (y ≤ h) = false := decide_eq_false (by omega)
  have e3 : (h == 0) = false := beq_eq_false_iff_ne.2 (by omega)
  have lz := Lib.hid (fun W0 => Try.bits_LeadingZeros64 y W0 (by omega) (by omega))
  rw [hbl] at lz
  have HH1 := Lib.hid H1
  obtain ⟨gY, g1, g1', g0, g0', gu, gu', gd, gd', gQ⟩ := H1
  have z1 : ¬ v1 = 0 := by omega
  have qi : IntKind.u64.wrap (U.tdiv v1) = U / v1 := div_spell gu (by omega) (by omega)
  have qm : IntKind.u64.wrap (U / v1 * v1) = U / v1 * v1 := by
    rw [IntKind.wrap_u64]
    have := Int.mul_ediv_add_emod U v1
    have := Int.emod_nonneg U z1
    have := Int.mul_nonneg (Int.ediv_nonneg gu (show 0 ≤ v1 by omega)) (show 0 ≤ v1 by omega)
    have := Int.mul_comm v1 (U / v1)
    omega
  have ri : IntKind.u64.wrap (U - U / v1 * v1) = U % v1 := by
    rw [IntKind.wrap_u64]
    have := Int.mul_ediv_add_emod U v1
    have := Int.emod_nonneg U z1
    have := Int.emod_lt_of_pos U (show 0 < v1 by omega)
    have := Int.mul_comm v1 (U / v1)
    omega
  have HH2 := Lib.hid H2
  have fu := H2.hu
  have fu' := H2.hu'
  have fd := H2.hd
  have fd' := H2.hd'
  clear H2
  have qi2 : IntKind.u64.wrap (u2.tdiv v1) = u2 / v1 := div_spell fu (by omega) (by omega)
  have qm2 : IntKind.u64.wrap (u2 / v1 * v1) = u2 / v1 * v1 := by
    rw [IntKind.wrap_u64]
    have := Int.mul_ediv_add_emod u2 v1
    have := Int.emod_nonneg u2 z1
    have := Int.mul_nonneg (Int.ediv_nonneg fu (show 0 ≤ v1 by omega)) (show 0 ≤ v1 by omega)
    have := Int.mul_comm v1 (u2 / v1)
    omega
  have ri2 : IntKind.u64.wrap (u2 - u2 / v1 * v1) = u2 % v1 := by
    rw [IntKind.wrap_u64]
    have := Int.mul_ediv_add_emod u2 v1
    have := Int.emod_nonneg u2 z1
    have := Int.emod_lt_of_pos u2 (show 0 < v1 by omega)
    have := Int.mul_comm v1 (u2 / v1)
    omega
  clear hbl gY gQ
  go_enter Try.func85, Try.ntmps85
  go_wp2_with fail
  refine (lz.out _).mono ?_
  rintro e w' ⟨rfl, rfl⟩
  go_wp2
  go_loop [15, 16] (fun a b => ∃ q r : Int, Hid (HInv U v1 q r Q1) ∧ a = .int .u64 q ∧ b = .int .u64 r) (fun a _ => (intOf a).toNat)
  case atStart => exact ⟨_, _, Lib.hid (half_start HH1.out rfl rfl), rfl, rfl⟩
  case round =>
    obtain ⟨q, r, hi, rfl, rfl⟩ := hrel
    have hi1 := hi.out.1
    have hi2 := hi.out.2.1
    have hi3 := hi.out.2.2.1
    have hi4 := hi.out.2.2.2.1
    by_cases c1 : 4294967296 ≤ q
    · have k1 : decide (4294967296 ≤ q) = true := decide_eq_true c1
      have m := half_more HH1.out hi.out (.inl c1)
      have m1 := m.1
      have M := Lib.hid m
      clear m
      by_cases c3 : 4294967296 ≤ r + v1
      · have k3 : decide (4294967296 ≤ r + v1) = true := decide_eq_true c3
        have hq1 : q - 1 = Q1 := M.out.2.2.2 c3
        clear M hi
        go_wp2
        go_loop [18, 16] (fun a b => ∃ q r : Int, Hid (HInv u2 v1 q r Q0) ∧ a = .int .u64 q ∧ b = .int .u64 r) (fun a _ => (intOf a).toNat)
        case atStart => exact ⟨_, _, Lib.hid (half_start HH2.out rfl rfl), rfl, rfl⟩
        case round =>
          obtain ⟨q, r, hi, rfl, rfl⟩ := hrel
          have hi1 := hi.out.1
          have hi2 := hi.out.2.1
          have hi3 := hi.out.2.2.1
          have hi4 := hi.out.2.2.2.1
          by_cases c1 : 4294967296 ≤ q
          · have k1 : decide (4294967296 ≤ q) = true := decide_eq_true c1
            have m := half_more HH2.out hi.out (.inl c1)
            have m1 := m.1
            have M := Lib.hid m
            clear m
            by_cases c3 : 4294967296 ≤ r + v1
            · have k3 : decide (4294967296 ≤ r + v1) = true := decide_eq_true c3
              have hq1 : q - 1 = Q0 := M.out.2.2.2 c3
              clear M hi
              go_wp2
              go_ret2
              exact ⟨rfl, rfl⟩
            · have k3 : decide (4294967296 ≤ r + v1) = false := decide_eq_false c3
              go_wp2
              go_round
              case rel => exact ⟨q - 1, r + v1, Lib.hid ⟨by omega, by omega, by omega, by omega, M.out.2.2.1, M.out.2.1⟩, rfl, rfl⟩
              case measure => simp [intOf]; omega
          · have k1 : decide (4294967296 ≤ q) = false := decide_eq_false c1
            have hm := half_mul g0 g0' hi1 (Int.not_le.1 c1)
            have hw1 : IntKind.u64.wrap (q * v0) = q * v0 := by rw [IntKind.wrap_u64]; omega
            have hw2 : IntKind.u64.wrap (4294967296 * r) = 4294967296 * r := by rw [IntKind.wrap_u64]; omega
            have hw3 : IntKind.u64.wrap (4294967296 * r + d0) = 4294967296 * r + d0 := by rw [IntKind.wrap_u64]; omega
            by_cases c2 : 4294967296 * r + d0 < q * v0
            · have k2 : decide (4294967296 * r + d0 < q * v0) = true := decide_eq_true c2
              have m := half_more HH2.out hi.out (.inr c2)
              have m1 := m.1
              have M := Lib.hid m
              clear m hm
              by_cases c3 : 4294967296 ≤ r + v1
              · have k3 : decide (4294967296 ≤ r + v1) = true := decide_eq_true c3
                have hq1 : q - 1 = Q0 := M.out.2.2.2 c3
                clear M hi
                go_wp2
                go_ret2
                exact ⟨rfl, rfl⟩
              · have k3 : decide (4294967296 ≤ r + v1) = false := decide_eq_false c3
                go_wp2
                go_round
                case rel => exact ⟨q - 1, r + v1, Lib.hid ⟨by omega, by omega, by omega, by omega, M.out.2.2.1, M.out.2.1⟩, rfl, rfl⟩
                case measure => simp [intOf]; omega
            · have k2 : decide (4294967296 * r + d0 < q * v0) = false := decide_eq_false c2
              have hq1 : q = Q0 := half_stop HH2.out hi.out (Int.not_lt.1 c2)
              subst hq1
              clear hi hm
              go_wp2
              go_ret2
              exact ⟨rfl, rfl⟩
      · have k3 : decide (4294967296 ≤ r + v1) = false := decide_eq_false c3
        go_wp2
        go_round
        case rel => exact ⟨q - 1, r + v1, Lib.hid ⟨by omega, by omega, by omega, by omega, M.out.2.2.1, M.out.2.1⟩, rfl, rfl⟩
        case measure => simp [intOf]; omega
    · have k1 : decide (4294967296 ≤ q) = false := decide_eq_false c1
      have hm := half_mul g0 g0' hi1 (Int.not_le.1 c1)
      have hw1 : IntKind.u64.wrap (q * v0) = q * v0 := by rw [IntKind.wrap_u64]; omega
      have hw2 : IntKind.u64.wrap (4294967296 * r) = 4294967296 * r := by rw [IntKind.wrap_u64]; omega
      have hw3 : IntKind.u64.wrap (4294967296 * r + d1) = 4294967296 * r + d1 := by rw [IntKind.wrap_u64]; omega
      by_cases c2 : 4294967296 * r + d1 < q * v0
      · have k2 : decide (4294967296 * r + d1 < q * v0) = true := decide_eq_true c2
        have m := half_more HH1.out hi.out (.inr c2)
        have m1 := m.1
        have M := Lib.hid m
        clear m hm
        by_cases c3 : 4294967296 ≤ r + v1
        · have k3 : decide (4294967296 ≤ r + v1) = true := decide_eq_true c3
          have hq1 : q - 1 = Q1 := M.out.2.2.2 c3
          clear M hi
          go_wp2
          go_loop [18, 16] (fun a b => ∃ q r : Int, Hid (HInv u2 v1 q r Q0) ∧ a = .int .u64 q ∧ b = .int .u64 r) (fun a _ => (intOf a).toNat)
          case atStart => exact ⟨_, _, Lib.hid (half_start HH2.out rfl rfl), rfl, rfl⟩
          case round =>
            obtain ⟨q, r, hi, rfl, rfl⟩ := hrel
            have hi1 := hi.out.1
            have hi2 := hi.out.2.1
            have hi3 := hi.out.2.2.1
            have hi4 := hi.out.2.2.2.1
            by_cases c1 : 4294967296 ≤ q
            · have k1 : decide (4294967296 ≤ q) = true := decide_eq_true c1
              have m := half_more HH2.out hi.out (.inl c1)
              have m1 := m.1
              have M := Lib.hid m
              clear m
              by_cases c3 : 4294967296 ≤ r + v1
              · have k3 : decide (4294967296 ≤ r + v1) = true := decide_eq_true c3
                have hq1 : q - 1 = Q0 := M.out.2.2.2 c3
                clear M hi
                go_wp2
                go_ret2
                exact ⟨rfl, rfl⟩
              · have k3 : decide (4294967296 ≤ r + v1) = false := decide_eq_false c3
                go_wp2
                go_round
                case rel => exact ⟨q - 1, r + v1, Lib.hid ⟨by omega, by omega, by omega, by omega, M.out.2.2.1, M.out.2.1⟩, rfl, rfl⟩
                case measure => simp [intOf]; omega
            · have k1 : decide (4294967296 ≤ q) = false := decide_eq_false c1
              have hm := half_mul g0 g0' hi1 (Int.not_le.1 c1)
              have hw1 : IntKind.u64.wrap (q * v0) = q * v0 := by rw [IntKind.wrap_u64]; omega
              have hw2 : IntKind.u64.wrap (4294967296 * r) = 4294967296 * r := by rw [IntKind.wrap_u64]; omega
              have hw3 : IntKind.u64.wrap (4294967296 * r + d0) = 4294967296 * r + d0 := by rw [IntKind.wrap_u64]; omega
              by_cases c2 : 4294967296 * r + d0 < q * v0
              · have k2 : decide (4294967296 * r + d0 < q * v0) = true := decide_eq_true c2
                have m := half_more HH2.out hi.out (.inr c2)
                have m1 := m.1
                have M := Lib.hid m
                clear m hm
                by_cases c3 : 4294967296 ≤ r + v1
                · have k3 : decide (4294967296 ≤ r + v1) = true := decide_eq_true c3
                  have hq1 : q - 1 = Q0 := M.out.2.2.2 c3
                  clear M hi
                  go_wp2
                  go_ret2
                  exact ⟨rfl, rfl⟩
                · have k3 : decide (4294967296 ≤ r + v1) = false := decide_eq_false c3
                  go_wp2
                  go_round
                  case rel => exact ⟨q - 1, r + v1, Lib.hid ⟨by omega, by omega, by omega, by omega, M.out.2.2.1, M.out.2.1⟩, rfl, rfl⟩
                  case measure => simp [intOf]; omega
              · have k2 : decide (4294967296 * r + d0 < q * v0) = false := decide_eq_false c2
                have hq1 : q = Q0 := half_stop HH2.out hi.out (Int.not_lt.1 c2)
                subst hq1
                clear hi hm
                go_wp2
                go_ret2
                exact ⟨rfl, rfl⟩
        · have k3 : decide (4294967296 ≤ r + v1) = false := decide_eq_false c3
          go_wp2
          go_round
          case rel => exact ⟨q - 1, r + v1, Lib.hid ⟨by omega, by omega, by omega, by omega, M.out.2.2.1, M.out.2.1⟩, rfl, rfl⟩
          case measure => simp [intOf]; omega
      · have k2 : decide (4294967296 * r + d1 < q * v0) = false := decide_eq_false c2
        have hq1 : q = Q1 := half_stop HH1.out hi.out (Int.not_lt.1 c2)
        subst hq1
        clear hi hm
        go_wp2
        go_loop [18, 16] (fun a b => ∃ q r : Int, Hid (HInv u2 v1 q r Q0) ∧ a = .int .u64 q ∧ b = .int .u64 r) (fun a _ => (intOf a).toNat)
        case atStart => exact ⟨_, _, Lib.hid (half_start HH2.out rfl rfl), rfl, rfl⟩
        case round =>
          obtain ⟨q, r, hi, rfl, rfl⟩ := hrel
          have hi1 := hi.out.1
          have hi2 := hi.out.2.1
          have hi3 := hi.out.2.2.1
          have hi4 := hi.out.2.2.2.1
          by_cases c1 : 4294967296 ≤ q
          · have k1 : decide (4294967296 ≤ q) = true := decide_eq_true c1
            have m := half_more HH2.out hi.out (.inl c1)
            have m1 := m.1
            have M := Lib.hid m
            clear m
            by_cases c3 : 4294967296 ≤ r + v1
            · have k3 : decide (4294967296 ≤ r + v1) = true := decide_eq_true c3
              have hq1 : q - 1 = Q0 := M.out.2.2.2 c3
              clear M hi
              go_wp2
              go_ret2
              exact ⟨rfl, rfl⟩
            · have k3 : decide (4294967296 ≤ r + v1) = false := decide_eq_false c3
              go_wp2
              go_round
              case rel => exact ⟨q - 1, r + v1, Lib.hid ⟨by omega, by omega, by omega, by omega, M.out.2.2.1, M.out.2.1⟩, rfl, rfl⟩
              case measure => simp [intOf]; omega
          · have k1 : decide (4294967296 ≤ q) = false := decide_eq_false c1
            have hm := half_mul g0 g0' hi1 (Int.not_le.1 c1)
            have hw1 : IntKind.u64.wrap (q * v0) = q * v0 := by rw [IntKind.wrap_u64]; omega
            have hw2 : IntKind.u64.wrap (4294967296 * r) = 4294967296 * r := by rw [IntKind.wrap_u64]; omega
            have hw3 : IntKind.u64.wrap (4294967296 * r + d0) = 4294967296 * r + d0 := by rw [IntKind.wrap_u64]; omega
            by_cases c2 : 4294967296 * r + d0 < q * v0
            · have k2 : decide (4294967296 * r + d0 < q * v0) = true := decide_eq_true c2
              have m := half_more HH2.out hi.out (.inr c2)
              have m1 := m.1
              have M := Lib.hid m
              clear m hm
              by_cases c3 : 4294967296 ≤ r + v1
              · have k3 : decide (4294967296 ≤ r + v1) = true := decide_eq_true c3
                have hq1 : q - 1 = Q0 := M.out.2.2.2 c3
                clear M hi
                go_wp2
                go_ret2
                exact ⟨rfl, rfl⟩
              · have k3 : decide (4294967296 ≤ r + v1) = false := decide_eq_false c3
                go_wp2
                go_round
                case rel => exact ⟨q - 1, r + v1, Lib.hid ⟨by omega, by omega, by omega, by omega, M.out.2.2.1, M.out.2.1⟩, rfl, rfl⟩
                case measure => simp [intOf]; omega
            · have k2 : decide (4294967296 * r + d0 < q * v0) = false := decide_eq_false c2
              have hq1 : q = Q0 := half_stop HH2.out hi.out (Int.not_lt.1 c2)
              subst hq1
              clear hi hm
              go_wp2
              go_ret2
              exact ⟨rfl, rfl⟩
end Go.Proofs.Ytdkbnbebioflaaa.Num
