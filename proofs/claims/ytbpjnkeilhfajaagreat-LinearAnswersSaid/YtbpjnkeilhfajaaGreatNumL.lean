/- math/bits.Div64, Rem64 at any number; the wide number's 'over'. -/
import Derived.Test.YtbpjnkeilhfajaaGreatTk
import Derived.Test.YtbpjnkeilhfajaaGreatNumJ
namespace Go.Proofs.YtbpjnkeilhfajaaGreat.Num
open Go.RowKit
set_option linter.unusedVariables false
set_option linter.unusedSimpArgs false
theorem p_le {p c : Int} (h : 0 < p) (hc : 0 < c) : p ≤ c * p := by
 have := Int.mul_le_mul_of_nonneg_right (show 1 ≤ c by omega) (Int.le_of_lt h)
 omega
theorem bits_or_high {p a b : Int} (n : Nat) (hp : p = 2 ^ n) (hp2 : p ≤ 18446744073709551616) (ha : 0 ≤ a) (hap : a * p < 18446744073709551616) (hb : 0 ≤ b) (hbp : b < p) : bits .or .u64 (a * p) b = a * p + b := by
 have pos : (0 : Int) < p := by omega
 have h1 := Int.mul_nonneg ha (Int.le_of_lt pos)
 have hb2 : b < 18446744073709551616 := by omega
 subst hp
 exact bits_join .u64 64 (by decide) (fun n h0 h1 => by rw [IntKind.wrap_u64]; omega) n (a * 2 ^ n) b h1 (Int.mul_emod_left _ _) (by omega) hb hbp (by omega)
theorem div64_any (h l y : Int) (w : World) (h0 : 0 ≤ h) (hl : 0 ≤ l) (hl2 : l < 18446744073709551616) (hy : h < y) (hy2 : y < 18446744073709551616) :
  Calls Tryz.prog 136 #[.int .u64 h, .int .u64 l, .int .u64 y] w fun e w' => e = .returned (.tuple #[.int .u64 ((h * 18446744073709551616 + l) / y), .int .u64 ((h * 18446744073709551616 + l) % y)]) ∧ ∃ n, w' = w.drewN n := by
 by_cases hz : h = 0
 ·subst hz
  refine (div64_small l y w hl hl2 hy hy2).mono ?_
  rintro e w' ⟨rfl, rfl⟩
  refine ⟨?_, 1, rfl⟩
  rw [show (0 : Int) * 18446744073709551616 + l = l from by omega]
 ·obtain ⟨n1, n2, n3, n4, n5⟩ := norm_facts (y := y) (by omega) hy2
  generalize hs : 64 - (Lib.bitLen y.toNat : Int) = s at *
  generalize hp : (2 : Int) ^ s.toNat = p at *
  generalize hpc : (2 : Int) ^ (64 - s).toNat = pc at *
  have p0 : 0 < p := by rw [← hp]; exact Int.pow_pos (by decide)
  have pc0 : 0 < pc := by rw [← hpc]; exact Int.pow_pos (by decide)
  have hh : (h + 1) * p ≤ y * p := Int.mul_le_mul_of_nonneg_right (by omega) (Int.le_of_lt p0)
  have hh2 : (h + 1) * p = h * p + p := by grind
  have hp0 := Int.mul_nonneg h0 (Int.le_of_lt p0)
  have lq : l / pc < p := by rw [Int.ediv_lt_iff_lt_mul pc0, n5]; exact hl2
  have lq0 : 0 ≤ l / pc := Int.ediv_nonneg hl (Int.le_of_lt pc0)
  have le := Int.mul_ediv_add_emod l pc
  have lm0 := Int.emod_nonneg l (show pc ≠ 0 by omega)
  have lm1 := Int.emod_lt_of_pos l pc0
  have lp : l * p = l / pc * 18446744073709551616 + l % pc * p := by rw [← n5]; grind
  have lm2 := Int.mul_nonneg lm0 (Int.le_of_lt p0)
  have lm3 : (l % pc + 1) * p ≤ pc * p := Int.mul_le_mul_of_nonneg_right (by omega) (Int.le_of_lt p0)
  have lm4 : (l % pc + 1) * p = l % pc * p + p := by grind
  have lm5 : pc * p = 18446744073709551616 := by rw [← n5]; grind
  have Yw : IntKind.u64.wrap (y * p) = y * p := by rw [IntKind.wrap_u64]; omega
  have Hw : IntKind.u64.wrap (h * p) = h * p := by rw [IntKind.wrap_u64]; omega
  have Lw : IntKind.u64.wrap (l * p) = l % pc * p := by rw [IntKind.wrap_u64]; omega
  have Uw : bits BinOp.or .u64 (IntKind.u64.wrap (h * p)) (l / pc) = h * p + l / pc := by
   rw [Hw]
   exact bits_or_high s.toNat hp.symm (by rw [← lm5]; exact p_le p0 pc0) h0 (by omega) lq0 lq
  have NP : (h * 18446744073709551616 + l) * p = (h * p + l / pc) * 18446744073709551616 + l % pc * p := by
   have : (h * 18446744073709551616 + l) * p = h * p * 18446744073709551616 + l * p := by grind
   rw [this, lp]; grind
  have U0 : 0 ≤ h * p + l / pc := by omega
  have UY : h * p + l / pc < y * p := by omega
  have L0 := lm2
  have L1 : l % pc * p < 18446744073709551616 := by omega
  generalize hY : y * p = Y at *
  generalize hU : h * p + l / pc = U at *
  generalize hL : l % pc * p = L at *
  have H1 : Half U (Y / 4294967296) (Y % 4294967296) Y (L / 4294967296) ((U * 4294967296 + L / 4294967296) / Y) :=
   ⟨by omega, by omega, by omega, by omega, by omega, U0, UY, by omega, by omega, rfl⟩
  obtain ⟨a1, a2, a3, a4⟩ := half_rest H1
  generalize hQ1 : (U * 4294967296 + L / 4294967296) / Y = Q1 at *
  have H2 : Half (U * 4294967296 + L / 4294967296 - Q1 * Y) (Y / 4294967296) (Y % 4294967296) Y (L % 4294967296) (((U * 4294967296 + L / 4294967296 - Q1 * Y) * 4294967296 + L % 4294967296) / Y) :=
   ⟨by omega, by omega, by omega, by omega, by omega, a3, a4, by omega, by omega, rfl⟩
  obtain ⟨b1, b2, b3, b4⟩ := half_rest H2
  generalize hQ0 : ((U * 4294967296 + L / 4294967296 - Q1 * Y) * 4294967296 + L % 4294967296) / Y = Q0 at *
  have fu2 : IntKind.u64.wrap (IntKind.u64.wrap (IntKind.u64.wrap (U * 4294967296) + L / 4294967296) - IntKind.u64.wrap (Q1 * Y)) = U * 4294967296 + L / 4294967296 - Q1 * Y := by
   simp only [IntKind.wrap_u64]; omega
  have frr : IntKind.u64.wrap (IntKind.u64.wrap (IntKind.u64.wrap ((U * 4294967296 + L / 4294967296 - Q1 * Y) * 4294967296) + L % 4294967296) - IntKind.u64.wrap (Q0 * Y)) = (U * 4294967296 + L / 4294967296 - Q1 * Y) * 4294967296 + L % 4294967296 - Q0 * Y := by
   simp only [IntKind.wrap_u64]; omega
  have hN : (h * 18446744073709551616 + l) * p = (Q1 * 4294967296 + Q0) * Y + ((U * 4294967296 + L / 4294967296 - Q1 * Y) * 4294967296 + L % 4294967296 - Q0 * Y) := by
   rw [NP]
   have : (Q1 * 4294967296 + Q0) * Y = Q1 * Y * 4294967296 + Q0 * Y := by grind
   omega
  have hdm := Int.mul_ediv_add_emod (h * 18446744073709551616 + l) y
  have hm0 := Int.emod_nonneg (h * 18446744073709551616 + l) (show y ≠ 0 by omega)
  have hm1 := Int.emod_lt_of_pos (h * 18446744073709551616 + l) (show 0 < y by omega)
  generalize hq : (h * 18446744073709551616 + l) / y = q at *
  generalize hr : (h * 18446744073709551616 + l) % y = r at *
  have hN2 : (h * 18446744073709551616 + l) * p = q * Y + r * p := by rw [← hdm, ← hY]; grind
  have r0 := Int.mul_nonneg hm0 (Int.le_of_lt p0)
  have r1 : (r + 1) * p ≤ y * p := Int.mul_le_mul_of_nonneg_right (by omega) (Int.le_of_lt p0)
  have r2 : (r + 1) * p = r * p + p := by grind
  have hqq : Q1 * 4294967296 + Q0 = q ∧ (U * 4294967296 + L / 4294967296 - Q1 * Y) * 4294967296 + L % 4294967296 - Q0 * Y = r * p := by
   have e : (Q1 * 4294967296 + Q0) * Y + ((U * 4294967296 + L / 4294967296 - Q1 * Y) * 4294967296 + L % 4294967296 - Q0 * Y) = q * Y + r * p := by rw [← hN, hN2]
   have k1 := Int.add_mul_ediv_right ((U * 4294967296 + L / 4294967296 - Q1 * Y) * 4294967296 + L % 4294967296 - Q0 * Y) (Q1 * 4294967296 + Q0) (show Y ≠ 0 by omega)
   have k2 := Int.add_mul_ediv_right (r * p) q (show Y ≠ 0 by omega)
   rw [Int.ediv_eq_zero_of_lt b3 b4] at k1
   rw [Int.ediv_eq_zero_of_lt r0 (by omega)] at k2
   have k3 : Q1 * 4294967296 + Q0 = q := by
    rw [Int.add_comm] at k1 k2
    rw [e] at k1
    omega
   refine ⟨k3, ?_⟩
   rw [k3] at e
   omega
  refine (div64_walk h l y s w (by omega) hl hl2 hy hy2 n1 n2 hs Y U L (Y / 4294967296) (Y % 4294967296) (L / 4294967296) (L % 4294967296) Q1 Q0 _ q r ?_ ?_ ?_ rfl ?_ rfl ?_ H1 fu2 H2 a1 a2 b1 b2 hqq.1 ?_).mono ?_
  ·rw [hp, hY]; exact Yw
  ·rw [hp, hpc]; exact Uw
  ·rw [hp]; exact Lw
  ·exact and32 (by omega) (by omega)
  ·exact and32 (by omega) (by omega)
  ·rw [hp, frr, hqq.2]; exact Int.mul_ediv_cancel _ (by omega)
  ·rintro e w' ⟨rfl, rfl⟩
   exact ⟨rfl, 0, rfl⟩
theorem rem64_any (h l y : Int) (w : World) (h0 : 0 ≤ h) (hl : 0 ≤ l) (hl2 : l < 18446744073709551616) (hy : 0 < y) (hy2 : y < 18446744073709551616) :
  Calls Tryz.prog 128 #[.int .u64 h, .int .u64 l, .int .u64 y] w fun e w' => e = .returned (.int .u64 ((h * 18446744073709551616 + l) % y)) ∧ ∃ n, w' = w.drewN n := by
 have hn : ¬ y = 0 := by omega
 have m0 := Int.emod_nonneg h hn
 have m1 := Int.emod_lt_of_pos h hy
 have dv := Lib.hid (fun W0 => div64_any (h % y) l y W0 m0 hl hl2 m1 hy2)
 have e : (h % y * 18446744073709551616 + l) % y = (h * 18446744073709551616 + l) % y := by
  rw [Int.add_emod, Int.mul_emod, Int.emod_emod_of_dvd _ (Int.dvd_refl y), ← Int.mul_emod, ← Int.add_emod]
 have E := Lib.hid e
 clear e m0 m1
 have hmod : h.tmod y = h % y := Int.tmod_eq_emod_of_nonneg h0
 go_enter Tryz.func128, Tryz.ntmps128
 go_wp2_with fail
 refine (dv.out _).mono ?_
 rintro e w1 ⟨rfl, n, rfl⟩
 go_wp2
 go_ret
 exact ⟨ret_int E.out, n, rfl⟩
def quo0 (x y : Int) : Int := if x < 0 then -(-x / y) else x / y
theorem wv_over {x : Int} {b h l} (hw : WV x b h l) {y : Int} (hy : 0 < y) (hy2 : y < 18446744073709551616) :
  WV (quo0 x y) b (h / y) ((h % y * 18446744073709551616 + l) / y) := by
 obtain ⟨h0, h1, l0, l1, hx⟩ := hw
 have e := Int.mul_ediv_add_emod h y
 have m0 := Int.emod_nonneg h (show y ≠ 0 by omega)
 have m1 := Int.emod_lt_of_pos h hy
 have q0 := Int.ediv_nonneg h0 (Int.le_of_lt hy)
 have q1 := Int.ediv_le_self y h0
 have d : (h * 18446744073709551616 + l) / y = h / y * 18446744073709551616 + (h % y * 18446744073709551616 + l) / y := by
  have : h * 18446744073709551616 + l = (h % y * 18446744073709551616 + l) + h / y * 18446744073709551616 * y := by
   have : y * (h / y) = h / y * y := Int.mul_comm _ _
   have k : h / y * 18446744073709551616 * y = h / y * y * 18446744073709551616 := by grind
   omega
  rw [this, Int.add_mul_ediv_right _ _ (show y ≠ 0 by omega)]
  omega
 have l0' : 0 ≤ (h % y * 18446744073709551616 + l) / y := Int.ediv_nonneg (by omega) (Int.le_of_lt hy)
 have l1' : (h % y * 18446744073709551616 + l) / y < 18446744073709551616 := by rw [Int.ediv_lt_iff_lt_mul hy]; omega
 refine ⟨q0, by omega, l0', l1', ?_⟩
 rw [← d]
 unfold quo0
 cases b
 ·simp only [Bool.false_eq_true, if_false] at hx ⊢
  rw [if_neg (by omega), hx]
 ·simp only [if_true] at hx ⊢
  by_cases hz : x < 0
  ·rw [if_pos hz, hx, Int.neg_neg]
  ·have z : h * 18446744073709551616 + l = 0 := by omega
   rw [if_neg hz, hx, z]; simp
theorem setCell_drewN (w : World) (n : Nat) (a : Addr) (v : Value) : (w.drewN n).setCell a v = (w.setCell a v).drewN n := by
 simp only [World.setCell, World.drewN]
set_option maxHeartbeats 1000000 in
theorem over_any (b : Bool) (h l y : Int) (w : World) (h0 : 0 ≤ h) (h1 : h < 18446744073709551616) (hl : 0 ≤ l) (hl2 : l < 18446744073709551616) (hy : 0 < y) (hy2 : y < 18446744073709551616) :
  Calls Tryz.prog 129 #[W b h l, .int .u64 y] w fun e w' => e = .returned (W b (h / y) ((h % y * 18446744073709551616 + l) / y)) ∧
   ∃ n, w' = ((w.alloc (.cells #[.bool b, .int .u64 h, .int .u64 l] 83)).alloc (.cells #[.bool b, .int .u64 (h / y), .int .u64 ((h % y * 18446744073709551616 + l) / y)] 83)).drewN n := by
 have hn : ¬ y = 0 := by omega
 have m0 := Int.emod_nonneg h hn
 have m1 := Int.emod_lt_of_pos h hy
 have dv := Lib.hid (fun W0 => div64_any (h % y) l y W0 m0 hl hl2 m1 hy2)
 have hd1 : IntKind.u64.wrap (h.tdiv y) = h / y := div_spell h0 h1 hy
 have hmod : h.tmod y = h % y := Int.tmod_eq_emod_of_nonneg h0
 go_enter Tryz.func129, Tryz.ntmps129
 go_wp2
 refine wp_region_held_drew (S := (fun w' => w'.cell? ⟨w.heap.size, 1, none⟩ = some (.int .u64 h) ∧ w'.cell? ⟨w.heap.size, 2, none⟩ = some (.int .u64 l))) (by kernel_rfl) ?_ (fun hHeld => ?_)
 ·(simp [go_sem]; done)
 iterate 7 (first | refine tk0.go ?_ | refine tk1.go ?_ | refine tk2.go ?_ | refine tk3.go ?_ | refine tk4.go ?_ | refine tk5.go ?_ | refine tk6.go ?_)
 refine wpAnyH_ready (rs := [7]) (by kernel_rfl) (by simp) (ac7 (fun K hK => ?_) (AllReadyH.nil))
 focus go_simp
 focus (refine (dv.out _).mono ?_; rintro e w1 ⟨rfl, n, rfl⟩)
 focus try simp only []
 refine hK.out _ _ ?_ (fun hHeld => ?_)
 ·(simp [go_sem]; done)
 focus clear hK K; try simp only [Act.put, List.setIfInBounds_toArray, List.set_cons_zero, List.set_cons_succ]
 iterate 5 (first | refine tk8.go ?_ | refine tk9.go ?_ | refine tk10.go ?_ | refine tk11.go ?_ | refine tk12.go ?_)
 refine wpAnyH_done (by kernel_rfl) ?_ _; rotate_left 1
 go_wp2
 exact bodyPost_ret (v := W b (h / y) ((h % y * 18446744073709551616 + l) / y)) (by simp [results, Tryz.results129, go_sem]) rfl ⟨rfl, 1 + n, by simp [go_sem, setCell_drewN]⟩
end Go.Proofs.YtbpjnkeilhfajaaGreat.Num
