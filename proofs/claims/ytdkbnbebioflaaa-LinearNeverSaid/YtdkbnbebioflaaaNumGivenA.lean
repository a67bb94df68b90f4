import Derived.Test.YtdkbnbebioflaaaNumG
import Derived.Shelf.Small.Bits
import Derived.Shelf.Strconv.Itoa0
import Derived.Shelf.Bits.Mul64
import Derived.Test.YtdkbnbebioflaaaProg
import Derived.Test.YtdkbnbebioflaaaTk
section
/- The contracts of num's functions, in the form in which a printed text meets a callee: plain ones. -/
namespace Go.Proofs.Ytdkbnbebioflaaa.Given
open Go.RowKit Go.Proofs.Ytdkbnbebioflaaa.Num

def num_Make.f (a0 a1 : Int) : Option (Int × Int × Bool) := if In64 a0 ∧ In64 a1 then some (mk a0 a1) else none
theorem num_Make.calls (a0 a1 : Int) (r1 r2 : Int) (r3 : Bool) (w : World) (h : num_Make.f a0 a1 = some (r1, r2, r3)) :
    Calls Try.prog 8 #[.int .i64 a0, .int .i64 a1] w fun e w' => e = .returned (.tuple #[.agg #[.int .i64 r1, .int .i64 r2], .bool r3]) ∧ Below w.heap.size w w' := by
  unfold num_Make.f at h
  split at h
  · rename_i hd
    have := Make_any a0 a1 w hd.1 hd.2
    rw [Option.some.inj h] at this
    exact this
  · cases h

def num_Add.f (a0 a1 : Int) : Option (Int × Bool) := if In64 a0 ∧ In64 a1 then some (fitp (a0 + a1)) else none
theorem num_Add.calls (a0 a1 : Int) (r1 : Int) (r2 : Bool) (w : World) (h : num_Add.f a0 a1 = some (r1, r2)) :
    Calls Try.prog 51 #[.int .i64 a0, .int .i64 a1] w fun e w' => e = .returned (.tuple #[.int .i64 r1, .bool r2]) ∧ Below w.heap.size w w' := by
  unfold num_Add.f at h
  split at h
  · rename_i hd
    have := Add_any a0 a1 w hd.1 hd.2
    rw [Option.some.inj h] at this
    exact this
  · cases h

def num_Sub.f (a0 a1 : Int) : Option (Int × Bool) := if In64 a0 ∧ In64 a1 then some (fitp (a0 - a1)) else none
def num_Mul.f (a0 a1 : Int) : Option (Int × Bool) := if In64 a0 ∧ In64 a1 then some (fitp (a0 * a1)) else none
theorem num_Mul.calls (a0 a1 : Int) (r1 : Int) (r2 : Bool) (w : World) (h : num_Mul.f a0 a1 = some (r1, r2)) :
    Calls Try.prog 52 #[.int .i64 a0, .int .i64 a1] w fun e w' => e = .returned (.tuple #[.int .i64 r1, .bool r2]) ∧ Below w.heap.size w w' := by
  unfold num_Mul.f at h
  split at h
  · rename_i hd
    have := Mul_any a0 a1 w hd.1 hd.2
    rw [Option.some.inj h] at this
    exact this
  · cases h

def num_Neg.f (a0 : Int) : Option (Int × Bool) := if In64 a0 then some (fitp (-a0)) else none
theorem num_Neg.calls (a0 : Int) (r1 : Int) (r2 : Bool) (w : World) (h : num_Neg.f a0 = some (r1, r2)) :
    Calls Try.prog 54 #[.int .i64 a0] w fun e w' => e = .returned (.tuple #[.int .i64 r1, .bool r2]) ∧ Below w.heap.size w w' := by
  unfold num_Neg.f at h
  split at h
  · rename_i hd
    have := Neg_any a0 w hd
    rw [Option.some.inj h] at this
    exact this
  · cases h

def num_Gcd.f (a0 a1 : Int) : Option (Int × Bool) := if In64 a0 ∧ In64 a1 then some (fitp (Int.gcd a0 a1)) else none
theorem num_Gcd.calls (a0 a1 : Int) (r1 : Int) (r2 : Bool) (w : World) (h : num_Gcd.f a0 a1 = some (r1, r2)) :
    Calls Try.prog 58 #[.int .i64 a0, .int .i64 a1] w fun e w' => e = .returned (.tuple #[.int .i64 r1, .bool r2]) ∧ Below w.heap.size w w' := by
  unfold num_Gcd.f at h
  split at h
  · rename_i hd
    have := Gcd_any a0 a1 w hd.1 hd.2
    rw [Option.some.inj h] at this
    exact this
  · cases h

def num_Rat_Cmp.f (a0_0 a0_1 a1_0 a1_1 : Int) : Option Int := if In64 a0_0 ∧ In64 a0_1 ∧ In64 a1_0 ∧ In64 a1_1 then some (cmpI (a0_0 * a1_1 - a1_0 * a0_1)) else none
theorem num_Rat_Cmp.calls (a0_0 a0_1 a1_0 a1_1 : Int) (r : Int) (w : World) (h : num_Rat_Cmp.f a0_0 a0_1 a1_0 a1_1 = some r) :
    Calls Try.prog 56 #[.agg #[.int .i64 a0_0, .int .i64 a0_1], .agg #[.int .i64 a1_0, .int .i64 a1_1]] w fun e w' => e = .returned (.int .i64 r) ∧ Below w.heap.size w w' := by
  unfold num_Rat_Cmp.f at h
  split at h
  · rename_i hd
    have := Cmp_any a0_0 a0_1 a1_0 a1_1 w hd.1 hd.2.1 hd.2.2.1 hd.2.2.2
    rw [Option.some.inj h] at this
    exact this
  · cases h

end Go.Proofs.Ytdkbnbebioflaaa.Given
end

section
/-
  DERIVED: THE SHELF's CONTRACTS AT THIS DUMP, IN PLAIN WORDS (tools/lay-plain.mjs out of 'TryShelf.lean', which tools/lay-shelf.mjs wrote): THE SAME DECLARATIONS UNDER THE SAME NAMES: 'import', 'namespace', 'open', 'def', 'theorem' AND NOTHING ELSE: no command of the shelf's: FOR A HAND-IN. Each laying: the table of numbers ('.._ren') and one theorem, a field a fact of the dump's own or the kernel's comparison; each contract: ONE APPLICATION.
-/
namespace Go.Proofs
open Go.Shelf
def Try.lays134_ren : Go.Shelf.Ren := ⟨fun | 134 => 87 | 129 => 88 | n => n, fun | 53 => 44 | 3 => 3 | 4 => 4 | 46 => 101 | 5 => 5 | 9 => 9 | n => n, fun | n => n⟩
theorem Try.lays134 : Go.Proofs.Lays.n134 Try.prog Try.lays134_ren := {
  mixed := by kernel_rfl
  f129 := Try.func88.trans (congrArg some (by kernel_rfl))
  f134 := Try.func87.trans (congrArg some (by kernel_rfl))
  t3 := Try.underlying3
  a3 := Try.isAgg3
  z3 := Try.sizeOf3
  v3 := Try.zeroValue3
  t4 := Try.underlying4
  a4 := Try.isAgg4
  z4 := Try.sizeOf4
  v4 := Try.zeroValue4
  t5 := Try.underlying5
  a5 := Try.isAgg5
  z5 := Try.sizeOf5
  v5 := Try.zeroValue5
  t9 := Try.underlying9
  a9 := Try.isAgg9
  z9 := Try.sizeOf9
  v9 := Try.zeroValue9
  t46 := Try.underlying101
  a46 := Try.isAgg101
  z46 := Try.sizeOf101
  v46 := Try.zeroValue101
  t53 := Try.underlying44
  a53 := Try.isAgg44
  z53 := Try.sizeOf44
  v53 := Try.zeroValue44 }
/-- bits.LeadingZeros64: "LeadingZeros64 returns the number of leading zero bits in x; the result is 64 for x == 0.": IT RETURNS '64 - Lib.bitLen x'; the world is as it was. ITS CALLEE bits.Len64 IS MET BY ITS OWN CONTRACT OFF THE SHELF (lay that first): entered in place it sends the kernel out of memory. (LAID: no walk: one application.) -/
theorem Try.bits_LeadingZeros64 (x : Int) (w : World) (h0 : 0 ≤ x) (h1 : x ≤ 18446744073709551615) :
    Calls Try.prog 87 #[.int .u64 x] w fun e w' => e = .returned (.int .i64 (64 - (Lib.bitLen x.toNat : Int))) ∧ w' = w := Any.bits_LeadingZeros64 Try.lays134 x w h0 h1
def Try.lays212_ren : Go.Shelf.Ren := ⟨fun | 212 => 73 | 263 => 84 | 264 => 66 | n => n, fun | 46 => 101 | 51 => 111 | 146 => 112 | 53 => 44 | 148 => 93 | n => n, fun | n => n⟩
theorem Try.lays212 : Go.Proofs.Lays.n212 Try.prog Try.lays212_ren := {
  mixed := by kernel_rfl
  f212 := Try.func73.trans (congrArg some (by kernel_rfl))
  f263 := Try.func84.trans (congrArg some (by kernel_rfl))
  f264 := Try.func66.trans (congrArg some (by kernel_rfl))
  t46 := Try.underlying101
  a46 := Try.isAgg101
  z46 := Try.sizeOf101
  v46 := Try.zeroValue101
  t51 := Try.underlying111
  a51 := Try.isAgg111
  z51 := Try.sizeOf111
  v51 := Try.zeroValue111
  t53 := Try.underlying44
  a53 := Try.isAgg44
  z53 := Try.sizeOf44
  v53 := Try.zeroValue44
  t146 := Try.underlying112
  a146 := Try.isAgg112
  z146 := Try.sizeOf112
  v146 := Try.zeroValue112
  t148 := Try.underlying93
  a148 := Try.isAgg93
  z148 := Try.sizeOf93
  v148 := Try.zeroValue93 }
open Go.RowKit Go.Lib in
/-- math/bits.Mul: "Mul returns the full-width product of x and y": on a machine of 64 bits: Mul64's. (LAID: no walk: one application.) -/
theorem Try.bits_Mul (x y : Nat) (hx : x < 18446744073709551616) (hy : y < 18446744073709551616) (w : World) :
    Calls Try.prog 73 #[.int .u64 x, .int .u64 y] w fun e w' => e = .returned (.tuple #[.int .u64 ((x * y / 18446744073709551616 : Nat) : Int), .int .u64 ((x * y % 18446744073709551616 : Nat) : Int)]) ∧ w' = w := Any.bits_Mul Try.lays212 x y hx hy w
end Go.Proofs
end

section
/- math/bits.Div64, Rem64: a number of 128 bits, divided. -/
namespace Go.Proofs.Ytdkbnbebioflaaa.Num
open Go.RowKit
set_option linter.unusedVariables false
set_option linter.unusedSimpArgs false

theorem div64_small (l y : Int) (w : World) (hl : 0 ≤ l) (hl2 : l < 18446744073709551616) (hy : 0 < y) (hy2 : y < 18446744073709551616) :
    Calls Try.prog 85 #[.int .u64 0, .int .u64 l, .int .u64 y] w fun e w' => e = .returned (.tuple #[.int .u64 (l / y), .int .u64 (l % y)]) ∧ w' = w.drew := by
  have e1 : (y == 0) = false := beq_eq_false_iff_ne.2 (by omega)
  have e2 : decide (y ≤ 0) = false := decide_eq_false (by omega)
  have hn : ¬ y = 0 := by omega
  have hd := Lib.hid (div_spell hl hl2 hy)
  have hd1 : IntKind.u64.wrap (l.tdiv y) = l / y := hd.out
  have hd2 : l.tmod y = l % y := Int.tmod_eq_emod_of_nonneg hl
  go_enter Try.func85, Try.ntmps85
  go_wp2
  go_region
  go_wp2
  go_ret2
  exact ⟨rfl, rfl⟩

set_option maxHeartbeats 4000000 in
theorem div64_walk (h l y s : Int) (w : World) (h0 : 0 < h) (hl : 0 ≤ l) (hl2 : l < 18446744073709551616) (hy : h < y) (hy2 : y < 18446744073709551616)
    (hs : 0 ≤ s) (hs2 : s < 64) (hbl : 64 - (Lib.bitLen y.toNat : Int) = s) (Y U L v1 v0 d1 d0 Q1 Q0 u2 qq rr : Int)
    (hYw : IntKind.u64.wrap (y * 2 ^ s.toNat) = Y) (hUw : bits BinOp.or .u64 (IntKind.u64.wrap (h * 2 ^ s.toNat)) (l / 2 ^ (64 - s).toNat) = U) (hLw : IntKind.u64.wrap (l * 2 ^ s.toNat) = L)
    (hv1 : Y / 4294967296 = v1) (hv0 : bits BinOp.and .u64 Y 4294967295 = v0) (hd1 : L / 4294967296 = d1) (hd0 : bits BinOp.and .u64 L 4294967295 = d0)
    (H1 : Half U v1 v0 Y d1 Q1)
    (hu2 : IntKind.u64.wrap (IntKind.u64.wrap (IntKind.u64.wrap (U * 4294967296) + d1) - IntKind.u64.wrap (Q1 * Y)) = u2)
    (H2 : Half u2 v1 v0 Y d0 Q0)
    (kQ1 : 0 ≤ Q1) (kQ1' : Q1 < 4294967296) (kQ0 : 0 ≤ Q0) (kQ0' : Q0 < 4294967296)
    (hqq : Q1 * 4294967296 + Q0 = qq)
    (hrr : IntKind.u64.wrap (IntKind.u64.wrap (IntKind.u64.wrap (u2 * 4294967296) + d0) - IntKind.u64.wrap (Q0 * Y)) / 2 ^ s.toNat = rr) :
    Calls Try.prog 85 #[.int .u64 h, .int .u64 l, .int .u64 y] w fun e w' => e = .returned (.tuple #[.int .u64 qq, .int .u64 rr]) ∧ w' = w := by
  have e1 : (y == 0) = false := beq_eq_false_iff_ne.2 (by omega)
  have e2 : decide (y ≤ h) = false := decide_eq_false (by omega)
  have e3 : (h == 0) = false := beq_eq_false_iff_ne.2 (by omega)
  have lz := Lib.hid (fun W0 => Try.bits_LeadingZeros64 y W0 (by omega) (by omega))
  rw [hbl] at lz
  have HH1 := Lib.hid H1
  obtain ⟨gY, g1, g1', g0, g0', gu, gu', gd, gd', gQ⟩ := H1
  have z1 : ¬ v1 = 0 := by omega
  have qi : IntKind.u64.wrap (U.tdiv v1) = U / v1 := div_spell gu (by omega) (by omega)
  have qm : IntKind.u64.wrap (U / v1 * v1) = U / v1 * v1 := by
    rw [IntKind.wrap_u64]
    have := Int.mul_ediv_add_emod U v1
    have := Int.emod_nonneg U z1
    have := Int.mul_nonneg (Int.ediv_nonneg gu (show 0 ≤ v1 by omega)) (show 0 ≤ v1 by omega)
    have := Int.mul_comm v1 (U / v1)
    omega
  have ri : IntKind.u64.wrap (U - U / v1 * v1) = U % v1 := by
    rw [IntKind.wrap_u64]
    have := Int.mul_ediv_add_emod U v1
    have := Int.emod_nonneg U z1
    have := Int.emod_lt_of_pos U (show 0 < v1 by omega)
    have := Int.mul_comm v1 (U / v1)
    omega
  have HH2 := Lib.hid H2
  have fu := H2.hu
  have fu' := H2.hu'
  have fd := H2.hd
  have fd' := H2.hd'
  clear H2
  have qi2 : IntKind.u64.wrap (u2.tdiv v1) = u2 / v1 := div_spell fu (by omega) (by omega)
  have qm2 : IntKind.u64.wrap (u2 / v1 * v1) = u2 / v1 * v1 := by
    rw [IntKind.wrap_u64]
    have := Int.mul_ediv_add_emod u2 v1
    have := Int.emod_nonneg u2 z1
    have := Int.mul_nonneg (Int.ediv_nonneg fu (show 0 ≤ v1 by omega)) (show 0 ≤ v1 by omega)
    have := Int.mul_comm v1 (u2 / v1)
    omega
  have ri2 : IntKind.u64.wrap (u2 - u2 / v1 * v1) = u2 % v1 := by
    rw [IntKind.wrap_u64]
    have := Int.mul_ediv_add_emod u2 v1
    have := Int.emod_nonneg u2 z1
    have := Int.emod_lt_of_pos u2 (show 0 < v1 by omega)
    have := Int.mul_comm v1 (u2 / v1)
    omega
  clear hbl gY gQ
  go_enter Try.func85, Try.ntmps85
  go_wp2_with fail
  refine (lz.out _).mono ?_
  rintro e w' ⟨rfl, rfl⟩
  go_wp2
  go_loop [15, 16] (fun a b => ∃ q r : Int, Hid (HInv U v1 q r Q1) ∧ a = .int .u64 q ∧ b = .int .u64 r) (fun a _ => (intOf a).toNat)
  case atStart => exact ⟨_, _, Lib.hid (half_start HH1.out rfl rfl), rfl, rfl⟩
  case round =>
    obtain ⟨q, r, hi, rfl, rfl⟩ := hrel
    have hi1 := hi.out.1
    have hi2 := hi.out.2.1
    have hi3 := hi.out.2.2.1
    have hi4 := hi.out.2.2.2.1
    by_cases c1 : 4294967296 ≤ q
    · have k1 : decide (4294967296 ≤ q) = true := decide_eq_true c1
      have m := half_more HH1.out hi.out (.inl c1)
      have m1 := m.1
      have M := Lib.hid m
      clear m
      by_cases c3 : 4294967296 ≤ r + v1
      · have k3 : decide (4294967296 ≤ r + v1) = true := decide_eq_true c3
        have hq1 : q - 1 = Q1 := M.out.2.2.2 c3
        clear M hi
        go_wp2
        go_loop [18, 16] (fun a b => ∃ q r : Int, Hid (HInv u2 v1 q r Q0) ∧ a = .int .u64 q ∧ b = .int .u64 r) (fun a _ => (intOf a).toNat)
        case atStart => exact ⟨_, _, Lib.hid (half_start HH2.out rfl rfl), rfl, rfl⟩
        case round =>
          obtain ⟨q, r, hi, rfl, rfl⟩ := hrel
          have hi1 := hi.out.1
          have hi2 := hi.out.2.1
          have hi3 := hi.out.2.2.1
          have hi4 := hi.out.2.2.2.1
          by_cases c1 : 4294967296 ≤ q
          · have k1 : decide (4294967296 ≤ q) = true := decide_eq_true c1
            have m := half_more HH2.out hi.out (.inl c1)
            have m1 := m.1
            have M := Lib.hid m
            clear m
            by_cases c3 : 4294967296 ≤ r + v1
            · have k3 : decide (4294967296 ≤ r + v1) = true := decide_eq_true c3
              have hq1 : q - 1 = Q0 := M.out.2.2.2 c3
              clear M hi
              go_wp2
              go_ret2
              exact ⟨rfl, rfl⟩
            · have k3 : decide (4294967296 ≤ r + v1) = false := decide_eq_false c3
              go_wp2
              go_round
              case rel => exact ⟨q - 1, r + v1, Lib.hid ⟨by omega, by omega, by omega, by omega, M.out.2.2.1, M.out.2.1⟩, rfl, rfl⟩
              case measure => simp [intOf]; omega
          · have k1 : decide (4294967296 ≤ q) = false := decide_eq_false c1
            have hm := half_mul g0 g0' hi1 (Int.not_le.1 c1)
            have hw1 : IntKind.u64.wrap (q * v0) = q * v0 := by rw [IntKind.wrap_u64]; omega
            have hw2 : IntKind.u64.wrap (4294967296 * r) = 4294967296 * r := by rw [IntKind.wrap_u64]; omega
            have hw3 : IntKind.u64.wrap (4294967296 * r + d0) = 4294967296 * r + d0 := by rw [IntKind.wrap_u64]; omega
            by_cases c2 : 4294967296 * r + d0 < q * v0
            · have k2 : decide (4294967296 * r + d0 < q * v0) = true := decide_eq_true c2
              have m := half_more HH2.out hi.out (.inr c2)
              have m1 := m.1
              have M := Lib.hid m
              clear m hm
              by_cases c3 : 4294967296 ≤ r + v1
              · have k3 : decide (4294967296 ≤ r + v1) = true := decide_eq_true c3
                have hq1 : q - 1 = Q0 := M.out.2.2.2 c3
                clear M hi
                go_wp2
                go_ret2
                exact ⟨rfl, rfl⟩
              · have k3 : decide (4294967296 ≤ r + v1) = false := decide_eq_false c3
                go_wp2
                go_round
                case rel => exact ⟨q - 1, r + v1, Lib.hid ⟨by omega, by omega, by omega, by omega, M.out.2.2.1, M.out.2.1⟩, rfl, rfl⟩
                case measure => simp [intOf]; omega
            · have k2 : decide (4294967296 * r + d0 < q * v0) = false := decide_eq_false c2
              have hq1 : q = Q0 := half_stop HH2.out hi.out (Int.not_lt.1 c2)
              subst hq1
              clear hi hm
              go_wp2
              go_ret2
              exact ⟨rfl, rfl⟩
      · have k3 : decide (4294967296 ≤ r + v1) = false := decide_eq_false c3
        go_wp2
        go_round
        case rel => exact ⟨q - 1, r + v1, Lib.hid ⟨by omega, by omega, by omega, by omega, M.out.2.2.1, M.out.2.1⟩, rfl, rfl⟩
        case measure => simp [intOf]; omega
    · have k1 : decide (4294967296 ≤ q) = false := decide_eq_false c1
      have hm := half_mul g0 g0' hi1 (Int.not_le.1 c1)
      have hw1 : IntKind.u64.wrap (q * v0) = q * v0 := by rw [IntKind.wrap_u64]; omega
      have hw2 : IntKind.u64.wrap (4294967296 * r) = 4294967296 * r := by rw [IntKind.wrap_u64]; omega
      have hw3 : IntKind.u64.wrap (4294967296 * r + d1) = 4294967296 * r + d1 := by rw [IntKind.wrap_u64]; omega
      by_cases c2 : 4294967296 * r + d1 < q * v0
      · have k2 : decide (4294967296 * r + d1 < q * v0) = true := decide_eq_true c2
        have m := half_more HH1.out hi.out (.inr c2)
        have m1 := m.1
        have M := Lib.hid m
        clear m hm
        by_cases c3 : 4294967296 ≤ r + v1
        · have k3 : decide (4294967296 ≤ r + v1) = true := decide_eq_true c3
          have hq1 : q - 1 = Q1 := M.out.2.2.2 c3
          clear M hi
          go_wp2
          go_loop [18, 16] (fun a b => ∃ q r : Int, Hid (HInv u2 v1 q r Q0) ∧ a = .int .u64 q ∧ b = .int .u64 r) (fun a _ => (intOf a).toNat)
          case atStart => exact ⟨_, _, Lib.hid (half_start HH2.out rfl rfl), rfl, rfl⟩
          case round =>
            obtain ⟨q, r, hi, rfl, rfl⟩ := hrel
            have hi1 := hi.out.1
            have hi2 := hi.out.2.1
            have hi3 := hi.out.2.2.1
            have hi4 := hi.out.2.2.2.1
            by_cases c1 : 4294967296 ≤ q
            · have k1 : decide (4294967296 ≤ q) = true := decide_eq_true c1
              have m := half_more HH2.out hi.out (.inl c1)
              have m1 := m.1
              have M := Lib.hid m
              clear m
              by_cases c3 : 4294967296 ≤ r + v1
              · have k3 : decide (4294967296 ≤ r + v1) = true := decide_eq_true c3
                have hq1 : q - 1 = Q0 := M.out.2.2.2 c3
                clear M hi
                go_wp2
                go_ret2
                exact ⟨rfl, rfl⟩
              · have k3 : decide (4294967296 ≤ r + v1) = false := decide_eq_false c3
                go_wp2
                go_round
                case rel => exact ⟨q - 1, r + v1, Lib.hid ⟨by omega, by omega, by omega, by omega, M.out.2.2.1, M.out.2.1⟩, rfl, rfl⟩
                case measure => simp [intOf]; omega
            · have k1 : decide (4294967296 ≤ q) = false := decide_eq_false c1
              have hm := half_mul g0 g0' hi1 (Int.not_le.1 c1)
              have hw1 : IntKind.u64.wrap (q * v0) = q * v0 := by rw [IntKind.wrap_u64]; omega
              have hw2 : IntKind.u64.wrap (4294967296 * r) = 4294967296 * r := by rw [IntKind.wrap_u64]; omega
              have hw3 : IntKind.u64.wrap (4294967296 * r + d0) = 4294967296 * r + d0 := by rw [IntKind.wrap_u64]; omega
              by_cases c2 : 4294967296 * r + d0 < q * v0
              · have k2 : decide (4294967296 * r + d0 < q * v0) = true := decide_eq_true c2
                have m := half_more HH2.out hi.out (.inr c2)
                have m1 := m.1
                have M := Lib.hid m
                clear m hm
                by_cases c3 : 4294967296 ≤ r + v1
                · have k3 : decide (4294967296 ≤ r + v1) = true := decide_eq_true c3
                  have hq1 : q - 1 = Q0 := M.out.2.2.2 c3
                  clear M hi
                  go_wp2
                  go_ret2
                  exact ⟨rfl, rfl⟩
                · have k3 : decide (4294967296 ≤ r + v1) = false := decide_eq_false c3
                  go_wp2
                  go_round
                  case rel => exact ⟨q - 1, r + v1, Lib.hid ⟨by omega, by omega, by omega, by omega, M.out.2.2.1, M.out.2.1⟩, rfl, rfl⟩
                  case measure => simp [intOf]; omega
              · have k2 : decide (4294967296 * r + d0 < q * v0) = false := decide_eq_false c2
                have hq1 : q = Q0 := half_stop HH2.out hi.out (Int.not_lt.1 c2)
                subst hq1
                clear hi hm
                go_wp2
                go_ret2
                exact ⟨rfl, rfl⟩
        · have k3 : decide (4294967296 ≤ r + v1) = false := decide_eq_false c3
          go_wp2
          go_round
          case rel => exact ⟨q - 1, r + v1, Lib.hid ⟨by omega, by omega, by omega, by omega, M.out.2.2.1, M.out.2.1⟩, rfl, rfl⟩
          case measure => simp [intOf]; omega
      · have k2 : decide (4294967296 * r + d1 < q * v0) = false := decide_eq_false c2
        have hq1 : q = Q1 := half_stop HH1.out hi.out (Int.not_lt.1 c2)
        subst hq1
        clear hi hm
        go_wp2
        go_loop [18, 16] (fun a b => ∃ q r : Int, Hid (HInv u2 v1 q r Q0) ∧ a = .int .u64 q ∧ b = .int .u64 r) (fun a _ => (intOf a).toNat)
        case atStart => exact ⟨_, _, Lib.hid (half_start HH2.out rfl rfl), rfl, rfl⟩
        case round =>
          obtain ⟨q, r, hi, rfl, rfl⟩ := hrel
          have hi1 := hi.out.1
          have hi2 := hi.out.2.1
          have hi3 := hi.out.2.2.1
          have hi4 := hi.out.2.2.2.1
          by_cases c1 : 4294967296 ≤ q
          · have k1 : decide (4294967296 ≤ q) = true := decide_eq_true c1
            have m := half_more HH2.out hi.out (.inl c1)
            have m1 := m.1
            have M := Lib.hid m
            clear m
            by_cases c3 : 4294967296 ≤ r + v1
            · have k3 : decide (4294967296 ≤ r + v1) = true := decide_eq_true c3
              have hq1 : q - 1 = Q0 := M.out.2.2.2 c3
              clear M hi
              go_wp2
              go_ret2
              exact ⟨rfl, rfl⟩
            · have k3 : decide (4294967296 ≤ r + v1) = false := decide_eq_false c3
              go_wp2
              go_round
              case rel => exact ⟨q - 1, r + v1, Lib.hid ⟨by omega, by omega, by omega, by omega, M.out.2.2.1, M.out.2.1⟩, rfl, rfl⟩
              case measure => simp [intOf]; omega
          · have k1 : decide (4294967296 ≤ q) = false := decide_eq_false c1
            have hm := half_mul g0 g0' hi1 (Int.not_le.1 c1)
            have hw1 : IntKind.u64.wrap (q * v0) = q * v0 := by rw [IntKind.wrap_u64]; omega
            have hw2 : IntKind.u64.wrap (4294967296 * r) = 4294967296 * r := by rw [IntKind.wrap_u64]; omega
            have hw3 : IntKind.u64.wrap (4294967296 * r + d0) = 4294967296 * r + d0 := by rw [IntKind.wrap_u64]; omega
            by_cases c2 : 4294967296 * r + d0 < q * v0
            · have k2 : decide (4294967296 * r + d0 < q * v0) = true := decide_eq_true c2
              have m := half_more HH2.out hi.out (.inr c2)
              have m1 := m.1
              have M := Lib.hid m
              clear m hm
              by_cases c3 : 4294967296 ≤ r + v1
              · have k3 : decide (4294967296 ≤ r + v1) = true := decide_eq_true c3
                have hq1 : q - 1 = Q0 := M.out.2.2.2 c3
                clear M hi
                go_wp2
                go_ret2
                exact ⟨rfl, rfl⟩
              · have k3 : decide (4294967296 ≤ r + v1) = false := decide_eq_false c3
                go_wp2
                go_round
                case rel => exact ⟨q - 1, r + v1, Lib.hid ⟨by omega, by omega, by omega, by omega, M.out.2.2.1, M.out.2.1⟩, rfl, rfl⟩
                case measure => simp [intOf]; omega
            · have k2 : decide (4294967296 * r + d0 < q * v0) = false := decide_eq_false c2
              have hq1 : q = Q0 := half_stop HH2.out hi.out (Int.not_lt.1 c2)
              subst hq1
              clear hi hm
              go_wp2
              go_ret2
              exact ⟨rfl, rfl⟩
end Go.Proofs.Ytdkbnbebioflaaa.Num
end

section
/- math/bits.Div64, Rem64 at any number; the wide number's 'over'. -/
namespace Go.Proofs.Ytdkbnbebioflaaa.Num
open Go.RowKit
set_option linter.unusedVariables false
set_option linter.unusedSimpArgs false

theorem p_le {p c : Int} (h : 0 < p) (hc : 0 < c) : p ≤ c * p := by
  have := Int.mul_le_mul_of_nonneg_right (show 1 ≤ c by omega) (Int.le_of_lt h)
  omega

theorem bits_or_high {p a b : Int} (n : Nat) (hp : p = 2 ^ n) (hp2 : p ≤ 18446744073709551616) (ha : 0 ≤ a) (hap : a * p < 18446744073709551616) (hb : 0 ≤ b) (hbp : b < p) : bits .or .u64 (a * p) b = a * p + b := by
  have pos : (0 : Int) < p := by omega
  have h1 := Int.mul_nonneg ha (Int.le_of_lt pos)
  have hb2 : b < 18446744073709551616 := by omega
  subst hp
  exact bits_join .u64 64 (by decide) (fun n h0 h1 => by rw [IntKind.wrap_u64]; omega) n (a * 2 ^ n) b h1 (Int.mul_emod_left _ _) (by omega) hb hbp (by omega)

theorem div64_any (h l y : Int) (w : World) (h0 : 0 ≤ h) (hl : 0 ≤ l) (hl2 : l < 18446744073709551616) (hy : h < y) (hy2 : y < 18446744073709551616) :
    Calls Try.prog 85 #[.int .u64 h, .int .u64 l, .int .u64 y] w fun e w' => e = .returned (.tuple #[.int .u64 ((h * 18446744073709551616 + l) / y), .int .u64 ((h * 18446744073709551616 + l) % y)]) ∧ ∃ n, w' = w.drewN n := by
  by_cases hz : h = 0
  · subst hz
    refine (div64_small l y w hl hl2 hy hy2).mono ?_
    rintro e w' ⟨rfl, rfl⟩
    refine ⟨?_, 1, rfl⟩
    rw [show (0 : Int) * 18446744073709551616 + l = l from by omega]
  · obtain ⟨n1, n2, n3, n4, n5⟩ := norm_facts (y := y) (by omega) hy2
    generalize hs : 64 - (Lib.bitLen y.toNat : Int) = s at *
    generalize hp : (2 : Int) ^ s.toNat = p at *
    generalize hpc : (2 : Int) ^ (64 - s).toNat = pc at *
    have p0 : 0 < p := by rw [← hp]; exact Int.pow_pos (by decide)
    have pc0 : 0 < pc := by rw [← hpc]; exact Int.pow_pos (by decide)
    -- what is moved
    have hh : (h + 1) * p ≤ y * p := Int.mul_le_mul_of_nonneg_right (by omega) (Int.le_of_lt p0)
    have hh2 : (h + 1) * p = h * p + p := by grind
    have hp0 := Int.mul_nonneg h0 (Int.le_of_lt p0)
    have lq : l / pc < p := by rw [Int.ediv_lt_iff_lt_mul pc0, n5]; exact hl2
    have lq0 : 0 ≤ l / pc := Int.ediv_nonneg hl (Int.le_of_lt pc0)
    have le := Int.mul_ediv_add_emod l pc
    have lm0 := Int.emod_nonneg l (show pc ≠ 0 by omega)
    have lm1 := Int.emod_lt_of_pos l pc0
    have lp : l * p = l / pc * 18446744073709551616 + l % pc * p := by rw [← n5]; grind
    have lm2 := Int.mul_nonneg lm0 (Int.le_of_lt p0)
    have lm3 : (l % pc + 1) * p ≤ pc * p := Int.mul_le_mul_of_nonneg_right (by omega) (Int.le_of_lt p0)
    have lm4 : (l % pc + 1) * p = l % pc * p + p := by grind
    have lm5 : pc * p = 18446744073709551616 := by rw [← n5]; grind
    have Yw : IntKind.u64.wrap (y * p) = y * p := by rw [IntKind.wrap_u64]; omega
    have Hw : IntKind.u64.wrap (h * p) = h * p := by rw [IntKind.wrap_u64]; omega
    have Lw : IntKind.u64.wrap (l * p) = l % pc * p := by rw [IntKind.wrap_u64]; omega
    have Uw : bits BinOp.or .u64 (IntKind.u64.wrap (h * p)) (l / pc) = h * p + l / pc := by
      rw [Hw]
      exact bits_or_high s.toNat hp.symm (by rw [← lm5]; exact p_le p0 pc0) h0 (by omega) lq0 lq
    -- the number, moved
    have NP : (h * 18446744073709551616 + l) * p = (h * p + l / pc) * 18446744073709551616 + l % pc * p := by
      have : (h * 18446744073709551616 + l) * p = h * p * 18446744073709551616 + l * p := by grind
      rw [this, lp]; grind
    have U0 : 0 ≤ h * p + l / pc := by omega
    have UY : h * p + l / pc < y * p := by omega
    have L0 := lm2
    have L1 : l % pc * p < 18446744073709551616 := by omega
    generalize hY : y * p = Y at *
    generalize hU : h * p + l / pc = U at *
    generalize hL : l % pc * p = L at *
    have H1 : Half U (Y / 4294967296) (Y % 4294967296) Y (L / 4294967296) ((U * 4294967296 + L / 4294967296) / Y) :=
      ⟨by omega, by omega, by omega, by omega, by omega, U0, UY, by omega, by omega, rfl⟩
    obtain ⟨a1, a2, a3, a4⟩ := half_rest H1
    generalize hQ1 : (U * 4294967296 + L / 4294967296) / Y = Q1 at *
    have H2 : Half (U * 4294967296 + L / 4294967296 - Q1 * Y) (Y / 4294967296) (Y % 4294967296) Y (L % 4294967296) (((U * 4294967296 + L / 4294967296 - Q1 * Y) * 4294967296 + L % 4294967296) / Y) :=
      ⟨by omega, by omega, by omega, by omega, by omega, a3, a4, by omega, by omega, rfl⟩
    obtain ⟨b1, b2, b3, b4⟩ := half_rest H2
    generalize hQ0 : ((U * 4294967296 + L / 4294967296 - Q1 * Y) * 4294967296 + L % 4294967296) / Y = Q0 at *
    have fu2 : IntKind.u64.wrap (IntKind.u64.wrap (IntKind.u64.wrap (U * 4294967296) + L / 4294967296) - IntKind.u64.wrap (Q1 * Y)) = U * 4294967296 + L / 4294967296 - Q1 * Y := by
      simp only [IntKind.wrap_u64]; omega
    have frr : IntKind.u64.wrap (IntKind.u64.wrap (IntKind.u64.wrap ((U * 4294967296 + L / 4294967296 - Q1 * Y) * 4294967296) + L % 4294967296) - IntKind.u64.wrap (Q0 * Y)) = (U * 4294967296 + L / 4294967296 - Q1 * Y) * 4294967296 + L % 4294967296 - Q0 * Y := by
      simp only [IntKind.wrap_u64]; omega
    -- the number is the quotient times Y, and the rest
    have hN : (h * 18446744073709551616 + l) * p = (Q1 * 4294967296 + Q0) * Y + ((U * 4294967296 + L / 4294967296 - Q1 * Y) * 4294967296 + L % 4294967296 - Q0 * Y) := by
      rw [NP]
      have : (Q1 * 4294967296 + Q0) * Y = Q1 * Y * 4294967296 + Q0 * Y := by grind
      omega
    have hdm := Int.mul_ediv_add_emod (h * 18446744073709551616 + l) y
    have hm0 := Int.emod_nonneg (h * 18446744073709551616 + l) (show y ≠ 0 by omega)
    have hm1 := Int.emod_lt_of_pos (h * 18446744073709551616 + l) (show 0 < y by omega)
    generalize hq : (h * 18446744073709551616 + l) / y = q at *
    generalize hr : (h * 18446744073709551616 + l) % y = r at *
    have hN2 : (h * 18446744073709551616 + l) * p = q * Y + r * p := by rw [← hdm, ← hY]; grind
    have r0 := Int.mul_nonneg hm0 (Int.le_of_lt p0)
    have r1 : (r + 1) * p ≤ y * p := Int.mul_le_mul_of_nonneg_right (by omega) (Int.le_of_lt p0)
    have r2 : (r + 1) * p = r * p + p := by grind
    have hqq : Q1 * 4294967296 + Q0 = q ∧ (U * 4294967296 + L / 4294967296 - Q1 * Y) * 4294967296 + L % 4294967296 - Q0 * Y = r * p := by
      have e : (Q1 * 4294967296 + Q0) * Y + ((U * 4294967296 + L / 4294967296 - Q1 * Y) * 4294967296 + L % 4294967296 - Q0 * Y) = q * Y + r * p := by rw [← hN, hN2]
      have k1 := Int.add_mul_ediv_right ((U * 4294967296 + L / 4294967296 - Q1 * Y) * 4294967296 + L % 4294967296 - Q0 * Y) (Q1 * 4294967296 + Q0) (show Y ≠ 0 by omega)
      have k2 := Int.add_mul_ediv_right (r * p) q (show Y ≠ 0 by omega)
      rw [Int.ediv_eq_zero_of_lt b3 b4] at k1
      rw [Int.ediv_eq_zero_of_lt r0 (by omega)] at k2
      have k3 : Q1 * 4294967296 + Q0 = q := by
        rw [Int.add_comm] at k1 k2
        rw [e] at k1
        omega
      refine ⟨k3, ?_⟩
      rw [k3] at e
      omega
    refine (div64_walk h l y s w (by omega) hl hl2 hy hy2 n1 n2 hs Y U L (Y / 4294967296) (Y % 4294967296) (L / 4294967296) (L % 4294967296) Q1 Q0 _ q r ?_ ?_ ?_ rfl ?_ rfl ?_ H1 fu2 H2 a1 a2 b1 b2 hqq.1 ?_).mono ?_
    · rw [hp, hY]; exact Yw
    · rw [hp, hpc]; exact Uw
    · rw [hp]; exact Lw
    · exact and32 (by omega) (by omega)
    · exact and32 (by omega) (by omega)
    · rw [hp, frr, hqq.2]; exact Int.mul_ediv_cancel _ (by omega)
    · rintro e w' ⟨rfl, rfl⟩
      exact ⟨rfl, 0, rfl⟩

theorem rem64_any (h l y : Int) (w : World) (h0 : 0 ≤ h) (hl : 0 ≤ l) (hl2 : l < 18446744073709551616) (hy : 0 < y) (hy2 : y < 18446744073709551616) :
    Calls Try.prog 77 #[.int .u64 h, .int .u64 l, .int .u64 y] w fun e w' => e = .returned (.int .u64 ((h * 18446744073709551616 + l) % y)) ∧ ∃ n, w' = w.drewN n := by
  have hn : ¬ y = 0 := by omega
  have m0 := Int.emod_nonneg h hn
  have m1 := Int.emod_lt_of_pos h hy
  have dv := Lib.hid (fun W0 => div64_any (h % y) l y W0 m0 hl hl2 m1 hy2)
  have e : (h % y * 18446744073709551616 + l) % y = (h * 18446744073709551616 + l) % y := by
    rw [Int.add_emod, Int.mul_emod, Int.emod_emod_of_dvd _ (Int.dvd_refl y), ← Int.mul_emod, ← Int.add_emod]
  have E := Lib.hid e
  clear e m0 m1
  have hmod : h.tmod y = h % y := Int.tmod_eq_emod_of_nonneg h0
  go_enter Try.func77, Try.ntmps77
  go_wp2_with fail
  refine (dv.out _).mono ?_
  rintro e w1 ⟨rfl, n, rfl⟩
  go_wp2
  go_ret
  exact ⟨ret_int E.out, n, rfl⟩

/-- A quotient, to 0. -/
def quo0 (x y : Int) : Int := if x < 0 then -(-x / y) else x / y

theorem wv_over {x : Int} {b h l} (hw : WV x b h l) {y : Int} (hy : 0 < y) (hy2 : y < 18446744073709551616) :
    WV (quo0 x y) b (h / y) ((h % y * 18446744073709551616 + l) / y) := by
  obtain ⟨h0, h1, l0, l1, hx⟩ := hw
  have e := Int.mul_ediv_add_emod h y
  have m0 := Int.emod_nonneg h (show y ≠ 0 by omega)
  have m1 := Int.emod_lt_of_pos h hy
  have q0 := Int.ediv_nonneg h0 (Int.le_of_lt hy)
  have q1 := Int.ediv_le_self y h0
  have d : (h * 18446744073709551616 + l) / y = h / y * 18446744073709551616 + (h % y * 18446744073709551616 + l) / y := by
    have : h * 18446744073709551616 + l = (h % y * 18446744073709551616 + l) + h / y * 18446744073709551616 * y := by
      have : y * (h / y) = h / y * y := Int.mul_comm _ _
      have k : h / y * 18446744073709551616 * y = h / y * y * 18446744073709551616 := by grind
      omega
    rw [this, Int.add_mul_ediv_right _ _ (show y ≠ 0 by omega)]
    omega
  have l0' : 0 ≤ (h % y * 18446744073709551616 + l) / y := Int.ediv_nonneg (by omega) (Int.le_of_lt hy)
  have l1' : (h % y * 18446744073709551616 + l) / y < 18446744073709551616 := by rw [Int.ediv_lt_iff_lt_mul hy]; omega
  refine ⟨q0, by omega, l0', l1', ?_⟩
  rw [← d]
  unfold quo0
  cases b
  · simp only [Bool.false_eq_true, if_false] at hx ⊢
    rw [if_neg (by omega), hx]
  · simp only [if_true] at hx ⊢
    by_cases hz : x < 0
    · rw [if_pos hz, hx, Int.neg_neg]
    · have z : h * 18446744073709551616 + l = 0 := by omega
      rw [if_neg hz, hx, z]; simp

theorem setCell_drewN (w : World) (n : Nat) (a : Addr) (v : Value) : (w.drewN n).setCell a v = (w.setCell a v).drewN n := by
  simp only [World.setCell, World.drewN]

set_option maxHeartbeats 1000000 in
theorem over_any (b : Bool) (h l y : Int) (w : World) (h0 : 0 ≤ h) (h1 : h < 18446744073709551616) (hl : 0 ≤ l) (hl2 : l < 18446744073709551616) (hy : 0 < y) (hy2 : y < 18446744073709551616) :
    Calls Try.prog 78 #[W b h l, .int .u64 y] w fun e w' => e = .returned (W b (h / y) ((h % y * 18446744073709551616 + l) / y)) ∧
      ∃ n, w' = ((w.alloc (.cells #[.bool b, .int .u64 h, .int .u64 l] 49)).alloc (.cells #[.bool b, .int .u64 (h / y), .int .u64 ((h % y * 18446744073709551616 + l) / y)] 49)).drewN n := by
  have hn : ¬ y = 0 := by omega
  have m0 := Int.emod_nonneg h hn
  have m1 := Int.emod_lt_of_pos h hy
  have dv := Lib.hid (fun W0 => div64_any (h % y) l y W0 m0 hl hl2 m1 hy2)
  have hd1 : IntKind.u64.wrap (h.tdiv y) = h / y := div_spell h0 h1 hy
  have hmod : h.tmod y = h % y := Int.tmod_eq_emod_of_nonneg h0
  go_enter Try.func78, Try.ntmps78
  go_wp2
  refine wp_region_held_drew (S := (fun w' => w'.cell? ⟨w.heap.size, 1, none⟩ = some (.int .u64 h) ∧ w'.cell? ⟨w.heap.size, 2, none⟩ = some (.int .u64 l))) (by kernel_rfl) ?_ (fun hHeld => ?_)
  · (simp [go_sem]; done)
  iterate 7 (first | refine tk0.go ?_ | refine tk1.go ?_ | refine tk2.go ?_ | refine tk3.go ?_ | refine tk4.go ?_ | refine tk5.go ?_ | refine tk6.go ?_)
  refine wpAnyH_ready (rs := [7]) (by kernel_rfl) (by simp) (ac7 (fun K hK => ?_) (AllReadyH.nil))
  focus go_simp
  focus (refine (dv.out _).mono ?_; rintro e w1 ⟨rfl, n, rfl⟩)
  focus try simp only []
  refine hK.out _ _ ?_ (fun hHeld => ?_)
  · (simp [go_sem]; done)
  focus clear hK K; try simp only [Act.put, List.setIfInBounds_toArray, List.set_cons_zero, List.set_cons_succ]
  iterate 5 (first | refine tk8.go ?_ | refine tk9.go ?_ | refine tk10.go ?_ | refine tk11.go ?_ | refine tk12.go ?_)
  refine wpAnyH_done (by kernel_rfl) ?_ _; rotate_left 1
  go_wp2
  exact bodyPost_ret (v := W b (h / y) ((h % y * 18446744073709551616 + l) / y)) (by simp [results, Try.results78, go_sem]) rfl ⟨rfl, 1 + n, by simp [go_sem, setCell_drewN]⟩
end Go.Proofs.Ytdkbnbebioflaaa.Num
end
