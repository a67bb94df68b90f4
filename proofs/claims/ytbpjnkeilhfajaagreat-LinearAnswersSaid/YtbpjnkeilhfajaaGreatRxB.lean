/- ashlarref11.CheckFarkas, walked. -/
import Derived.Test.YtbpjnkeilhfajaaGreatRxX
import Derived.Test.YtbpjnkeilhfajaaGreatRxA
import Derived.Test.YtbpjnkeilhfajaaGreatLnJ
namespace Go.Proofs.YtbpjnkeilhfajaaGreat.Rw
open Go.RowKit Go.Proofs.YtbpjnkeilhfajaaGreat.Given Go.Proofs.YtbpjnkeilhfajaaGreatW.PrintWords Go.Proofs.YtbpjnkeilhfajaaGreatW.PrintLast Go.Proofs.YtbpjnkeilhfajaaGreat.Num Go.Proofs.YtbpjnkeilhfajaaGreat.Ln Go.Proofs.YtbpjnkeilhfajaaGreat.Lin
set_option linter.unusedVariables false
set_option linter.unusedSimpArgs false

theorem cf_iff {l : List S40} {ws : List Int} {n : Nat} {r0 : S40} {t : List S40} (hl : l = r0 :: t) (hn : r0.f0.length = n) (hw : ws.length = l.length) :
    checkFarkas (l.map toZ) ws = true ↔ (∀ x, x ∈ ws → 0 ≤ x) ∧ (∀ r, r ∈ l → r.f0.length = n) ∧ (∀ k, k < n → weighF ws (l.map fun r => atV r (some k)) 0 = some 0) ∧ ∃ s, weighF ws (l.map fun r => atV r none) 0 = some s ∧ 0 < s := by
  have hwid : widthZ (l.map toZ) = n := by rw [hl]; exact hn
  have hcol : ∀ k, colZ (l.map toZ) k = l.map fun r => atV r (some k) := fun k => by unfold colZ; rw [List.map_map]; rfl
  have hk : kZ (l.map toZ) = l.map fun r => atV r none := by unfold kZ; rw [List.map_map]; rfl
  have hne : l.map toZ ≠ [] := by rw [hl]; simp
  have hlen : (l.map toZ).length = ws.length := by rw [List.length_map, hw]
  unfold checkFarkas
  rw [hwid, hk]
  simp only [hcol, hlen, decide_true, Bool.true_and, Bool.and_eq_true, List.all_eq_true, decide_eq_true_eq, List.mem_range, beq_iff_eq, hne, ne_eq, not_false_eq_true, true_and, List.mem_map, forall_exists_index, and_imp, forall_apply_eq_imp_iff₂]
  constructor
  · rintro ⟨⟨⟨⟨h1, _⟩, h2⟩, h3⟩, h4⟩
    refine ⟨h1, h2, h3, ?_⟩
    cases hq : weighF ws (l.map fun r => atV r none) 0 with
    | none => rw [hq] at h4; cases h4
    | some s => rw [hq] at h4; exact ⟨s, rfl, of_decide_eq_true h4⟩
  · rintro ⟨h1, h2, h3, s, h4, h5⟩
    exact ⟨⟨⟨⟨h1, trivial⟩, h2⟩, h3⟩, by rw [h4]; exact decide_eq_true h5⟩

set_option maxHeartbeats 16000000 in
set_option maxRecDepth 100000 in
theorem farkas11_any (l : List S40) (ws : List Int) (A A' : Option Addr) (c c' : Nat) (w : World) (hC : Kd.C k40 w A l.length l) (hP : (Kd.int .i64).C w A' ws.length ws) (hin : ∀ r, r ∈ l → RowIn r) (hpn : ∀ y, y ∈ ws → In64 y) :
    Calls Tryz.prog 18 #[.slice A l.length c, .slice A' ws.length c'] w fun e w' => e = .returned (.bool (checkFarkas (l.map toZ) ws)) ∧ Below w.heap.size w w' := by
  obtain ⟨res, hres⟩ : ∃ res, checkFarkas (l.map toZ) ws = res := ⟨_, rfl⟩
  rw [hres]
  have HC := Lib.hid hC
  have HP := Lib.hid hP
  have HMAX := Lib.hid (show l.length ≤ 9223372036854775807 from Kd.C_max hC)
  by_cases h0 : l = []
  · subst h0
    obtain rfl : res = false := by rw [← hres]; unfold checkFarkas; simp
    clear hres hC hP
    go_enter Tryz.func18, Tryz.ntmps18
    go_wp2
    go_ret
    exact ⟨rfl, Below.refl _ _⟩
  · obtain ⟨r0, t, hl⟩ : ∃ r0 t, l = r0 :: t := by
      cases l with
      | nil => exact absurd rfl h0
      | cons r0 t => exact ⟨r0, t, rfl⟩
    clear h0
    have hpos : 0 < l.length := by rw [hl]; simp
    have e0 : (l.length = 0) = False := eq_false (by omega)
    have e0' : ((l.length : Int) == 0) = false := by rw [beq_eq_false_iff_ne]; omega
    by_cases hw : ws.length = l.length
    · obtain ⟨n, hn⟩ : ∃ n, r0.f0.length = n := ⟨_, rfl⟩
      have hiff := cf_iff hl hn hw
      rw [hres] at hiff
      have HI := Lib.hid hiff
      have HIN := Lib.hid hin
      have HPN := Lib.hid hpn
      have HW := Lib.hid hw
      obtain ⟨ad, A0, c0, rfl, z0, z1, hc0, hrow0⟩ := row_at HC.out hpos
      have hl0 : l[0] = r0 := by subst hl; rfl
      rw [hl0, hn] at z0
      rw [Nat.zero_mul, add_z] at z0
      have HZ := Lib.hid z0
      have hnm : n ≤ 9223372036854775807 := by
        have h := Kd.C_max hrow0
        rw [hl0, hn] at h; exact h
      have HNM := Lib.hid hnm
      have e1 : (0 < l.length) = True := eq_true hpos
      rw [hw]
      clear hC hP hin hpn hres hl hn hiff hw hrow0 hl0 hpos z1 hc0 hnm
      go_enter Tryz.func18, Tryz.ntmps18
      go_wp2
      clear z0
      go_loopw [6] (fun v6 wr => ∃ i : Nat, i ≤ l.length ∧ v6 = .int .i64 i ∧ Hid (∀ j (hj : j < l.length), j < i → 0 ≤ ws[j]'(by rw [HW.out]; exact hj) ∧ l[j].f0.length = n) ∧ w = wr) (fun v6 _ => l.length - (intOf v6).toNat)
      case atStart => exact ⟨0, Nat.zero_le _, rfl, Lib.hid (fun j _ h => absurd h (Nat.not_lt_zero _)), rfl⟩
      case round =>
        obtain ⟨i, hi, rfl, hall, rfl⟩ := hrel
        by_cases hil : i < l.length
        · have e2 : (i < l.length) = True := eq_true hil
          obtain ⟨ad', Ai, ci, ea, q0, q1, hci, hrow⟩ := row_at HC.out hil
          cases ea
          have hiw : i < ws.length := by rw [HW.out]; exact hil
          obtain ⟨ap, rfl, s1⟩ := i64_at HP.out hiw
          have hym := List.getElem_mem hiw
          have hrm := List.getElem_mem hil
          obtain ⟨y, hy⟩ : ∃ y, ws[i] = y := ⟨_, rfl⟩
          obtain ⟨r, hr⟩ : ∃ r, l[i] = r := ⟨_, rfl⟩
          rw [hy] at s1 hym
          rw [hr] at q0 hrm
          have HY := Lib.hid (And.intro hy hr)
          have HII := Lib.hid (And.intro hi hil)
          have EW := Lib.hid (wrapj (show i + 1 < 9223372036854775808 by have := HMAX.out; omega))
          clear q1 hci hrow hi
          by_cases hy0 : y < 0
          · have e3 : (y < 0) = True := eq_true hy0
            obtain rfl : res = false := by
              cases res with
              | false => rfl
              | true => exact absurd ((HI.out.1 rfl).1 y hym) (by omega)
            clear hy0
            go_wp2
            go_ret
            exact ⟨rfl, Below.refl _ _⟩
          · have e3 : (y < 0) = False := eq_false hy0
            by_cases hrl : r.f0.length = n
            · rw [hrl] at q0
              have HYY := Lib.hid (And.intro (show 0 ≤ y by omega) hrl)
              clear hy0 hrl
              go_wp2
              refine ⟨⟨i + 1, HII.out.2, congrArg (Value.int .i64) EW.out, Lib.hid (fun j hj hji => ?_), trivial⟩, ?_⟩
              · rcases Nat.lt_succ_iff_lt_or_eq.1 hji with h | rfl
                · exact hall.out j hj h
                · rw [HY.out.2, HY.out.1]; exact HYY.out
              · rw [EW.out]
                simp only [intOf, Int.toNat_natCast]
                exact meas_lt HII.out.2
            · have e4 : ((r.f0.length : Int) != (n : Int)) = true := by rw [bne_iff_ne]; omega
              obtain rfl : res = false := by
                cases res with
                | false => rfl
                | true => exact absurd ((HI.out.1 rfl).2.1 r hrm) hrl
              clear hy0 hrl
              go_wp2
              go_ret
              exact ⟨rfl, Below.refl _ _⟩
        · have hi' : i = l.length := by omega
          subst i
          have e2 : (l.length < l.length) = False := eq_false (Nat.lt_irrefl _)
          have HA := Lib.hid (show (∀ x, x ∈ ws → 0 ≤ x) ∧ ∀ r, r ∈ l → r.f0.length = n by
            refine ⟨fun x hx => ?_, fun r hr => ?_⟩
            · obtain ⟨j, hj, rfl⟩ := List.getElem_of_mem hx
              have hj' : j < l.length := by rw [← HW.out]; exact hj
              exact (hall.out j hj' hj').1
            · obtain ⟨j, hj, rfl⟩ := List.getElem_of_mem hr
              exact (hall.out j hj hj).2)
          clear hi hil
          go_wp2
          go_loopw [7] (fun v7 wr => ∃ k : Nat, k ≤ n ∧ v7 = .int .i64 k ∧ Hid (∀ j, j < k → weighF ws (l.map fun r => atV r (some j)) 0 = some 0) ∧ Hid (Below w.heap.size w wr)) (fun v7 _ => n - (intOf v7).toNat)
          case atStart => exact ⟨0, Nat.zero_le _, rfl, Lib.hid (fun j h => absurd h (Nat.not_lt_zero _)), Lib.hid (Below.refl _ _)⟩
          case round =>
            obtain ⟨k, hk, rfl, hz, HB⟩ := hrel
            by_cases hkn : k < n
            · have e3 : (k < n) = True := eq_true hkn
              have EW := Lib.hid (wrapj (show k + 1 < 9223372036854775808 by have := HNM.out; omega))
              have HKK := Lib.hid (And.intro hk hkn)
              clear hk hkn
              go_wp2_with fail
              have hwg := weighed11_any l ws (some ad) A' c c' (some k) wr (Kd.C_below HC.out HB.out) (Kd.C_below HP.out HB.out) HIN.out HPN.out HW.out (fun k' hk' r hr => by cases hk'; rw [HA.out.2 r hr]; exact HKK.out.2)
              rw [HW.out] at hwg
              obtain ⟨o, ho⟩ : ∃ o, weighF ws (l.map fun r => atV r (some k)) 0 = o := ⟨_, rfl⟩
              rw [ho] at hwg
              refine hwg.mono ?_
              rintro e w2 ⟨rfl, hb⟩
              have HB2 := Lib.hid (HB.out.trans (hb.mono HB.out.size))
              have HOO := Lib.hid ho
              clear hb ho
              cases o with
              | none =>
                obtain rfl : res = false := by
                  cases res with
                  | false => rfl
                  | true => have h := (HI.out.1 rfl).2.2.1 k HKK.out.2; rw [HOO.out] at h; cases h
                simp only [endW]
                go_wp2
                go_ret
                exact ⟨rfl, HB2.out⟩
              | some s =>
                simp only [endW]
                by_cases hs : s = 0
                · subst hs
                  go_wp2
                  refine ⟨⟨k + 1, HKK.out.2, congrArg (Value.int .i64) EW.out, Lib.hid (fun j hj => ?_), HB2⟩, ?_⟩
                  · rcases Nat.lt_succ_iff_lt_or_eq.1 hj with h | rfl
                    · exact hz.out j h
                    · exact HOO.out
                  · rw [EW.out]
                    simp only [intOf, Int.toNat_natCast]
                    exact meas_lt HKK.out.2
                · have e5 : (s != 0) = true := by rw [bne_iff_ne]; exact hs
                  obtain rfl : res = false := by
                    cases res with
                    | false => rfl
                    | true => have h := (HI.out.1 rfl).2.2.1 k HKK.out.2; rw [HOO.out] at h; exact absurd (Option.some.inj h) hs
                  clear hs
                  go_wp2
                  go_ret
                  exact ⟨rfl, HB2.out⟩
            · have hk' : k = n := by omega
              subst k
              have e3 : (n < n) = False := eq_false (Nat.lt_irrefl _)
              clear hk hkn
              go_wp2_with fail
              have hwg := weighed11_any l ws (some ad) A' c c' none wr (Kd.C_below HC.out HB.out) (Kd.C_below HP.out HB.out) HIN.out HPN.out HW.out (fun k' hk' => by cases hk')
              rw [HW.out] at hwg
              obtain ⟨o, ho⟩ : ∃ o, weighF ws (l.map fun r => atV r none) 0 = o := ⟨_, rfl⟩
              rw [ho] at hwg
              refine hwg.mono ?_
              rintro e w2 ⟨rfl, hb⟩
              have HB2 := Lib.hid (HB.out.trans (hb.mono HB.out.size))
              have HOO := Lib.hid ho
              clear hb ho
              cases o with
              | none =>
                obtain rfl : res = false := by
                  cases res with
                  | false => rfl
                  | true => obtain ⟨s, h, _⟩ := (HI.out.1 rfl).2.2.2; rw [HOO.out] at h; cases h
                simp only [endW]
                go_wp2
                go_ret
                exact ⟨rfl, HB2.out⟩
              | some s =>
                simp only [endW]
                by_cases hs : 0 < s
                · have e5 : (0 < s) = True := eq_true hs
                  obtain rfl : res = true := HI.out.2 ⟨HA.out.1, HA.out.2, hz.out, s, HOO.out, hs⟩
                  clear hs
                  go_wp2
                  go_ret
                  exact ⟨rfl, HB2.out⟩
                · have e5 : (0 < s) = False := eq_false hs
                  obtain rfl : res = false := by
                    cases res with
                    | false => rfl
                    | true => obtain ⟨s', h, h'⟩ := (HI.out.1 rfl).2.2.2; rw [HOO.out] at h; cases h; exact absurd h' hs
                  clear hs
                  go_wp2
                  go_ret
                  exact ⟨rfl, HB2.out⟩
    · obtain rfl : res = false := by rw [← hres]; unfold checkFarkas; rw [decide_eq_false (by rw [List.length_map]; exact Ne.symm hw)]; simp
      have e1 : ((ws.length : Int) == (l.length : Int)) = false := by simp; omega
      have e2 : ((ws.length : Int) != (l.length : Int)) = true := by simp; omega
      clear hres hC hP hl hw hpos
      go_enter Tryz.func18, Tryz.ntmps18
      go_wp2
      go_ret
      exact ⟨rfl, Below.refl _ _⟩
end Go.Proofs.YtbpjnkeilhfajaaGreat.Rw
