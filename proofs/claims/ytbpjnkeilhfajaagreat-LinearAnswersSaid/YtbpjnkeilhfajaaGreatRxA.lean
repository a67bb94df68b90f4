/- ashlarref11.weighed, walked. -/
import Derived.Test.YtbpjnkeilhfajaaGreatRxX
import Derived.Test.YtbpjnkeilhfajaaGreatRfG
namespace Go.Proofs.YtbpjnkeilhfajaaGreat.Rw
open Go.RowKit Go.Proofs.YtbpjnkeilhfajaaGreat.Given Go.Proofs.YtbpjnkeilhfajaaGreatW.PrintWords Go.Proofs.YtbpjnkeilhfajaaGreatW.PrintLast Go.Proofs.YtbpjnkeilhfajaaGreat.Dig Go.Proofs.YtbpjnkeilhfajaaGreat.DigNumReckons Go.Proofs.YtbpjnkeilhfajaaGreat.Num Go.Proofs.YtbpjnkeilhfajaaGreat.Big Go.Proofs.YtbpjnkeilhfajaaGreat.Ln Go.Proofs.YtbpjnkeilhfajaaGreat.Lin
set_option linter.unusedVariables false
set_option linter.unusedSimpArgs false

def atV (r : S40) : Option Nat → Int
  | some k => r.f0.getD k 0
  | none => r.f1
def atN : Option Nat → Int
  | some k => (k : Int)
  | none => -1
def endW : Option Int → Int × Bool
  | some s => (s, true)
  | none => (0, false)

set_option maxHeartbeats 16000000 in
set_option maxRecDepth 100000 in
theorem weighed11_any (l : List S40) (ws : List Int) (A A' : Option Addr) (c c' : Nat) (at_ : Option Nat) (w : World) (hC : Kd.C k40 w A l.length l) (hP : (Kd.int .i64).C w A' ws.length ws) (hin : ∀ r, r ∈ l → RowIn r) (hpn : ∀ y, y ∈ ws → In64 y) (hl : ws.length = l.length) (hat : ∀ k, at_ = some k → ∀ r, r ∈ l → k < r.f0.length) :
    Calls Tryz.prog 50 #[.slice A l.length c, .slice A' ws.length c', .int .i64 (atN at_)] w fun e w' => e = .returned (.tuple #[.int .i64 (endW (weighF ws (l.map fun r => atV r at_) 0)).1, .bool (endW (weighF ws (l.map fun r => atV r at_) 0)).2]) ∧ Below w.heap.size w w' := by
  obtain ⟨f, hf⟩ : ∃ f : S40 → Int, (fun r => atV r at_) = f := ⟨_, rfl⟩
  obtain ⟨o, ho⟩ : ∃ o, weighF ws (l.map fun r => atV r at_) 0 = o := ⟨_, rfl⟩
  rw [ho]
  rw [hf] at ho
  have HF := Lib.hid hf
  have HC := Lib.hid hC
  have HP := Lib.hid hP
  have HIN := Lib.hid hin
  have HPN := Lib.hid hpn
  have HO := Lib.hid ho
  have HL := Lib.hid hl
  have HAT := Lib.hid hat
  have hmax : l.length ≤ 9223372036854775807 := Kd.C_max HC.out
  have HMAX := Lib.hid hmax
  rw [hl]
  clear hC hP hin hpn ho hl hat hmax hf
  rcases at_ with _ | at_
  all_goals
    first | show Calls _ _ #[_, _, .int .i64 (at_ : Int)] _ _ | show Calls _ _ #[_, _, .int .i64 (-1)] _ _
    go_enter Tryz.func50, Tryz.ntmps50
    go_wp2
    go_loopw [8, 9] (fun v8 v9 wr => ∃ (i : Nat) (s : Int), i ≤ l.length ∧ v8 = .int .i64 s ∧ v9 = .int .i64 i ∧ In64 s ∧ weighF (ws.drop i) ((l.drop i).map f) s = o ∧ Below w.heap.size w wr) (fun _ v9 _ => l.length - (intOf v9).toNat)
    case atStart => exact ⟨0, 0, Nat.zero_le _, rfl, rfl, ⟨by decide, by decide⟩, by rw [List.drop_zero, List.drop_zero]; exact HO.out, Below.refl _ _⟩
    case round =>
      obtain ⟨i, s, hi, rfl, rfl, hs, hw, hbr⟩ := hrel
      by_cases hil : i < l.length
      · have e1 : (i < l.length) = True := eq_true hil
        obtain ⟨ad, A0, c0, rfl, q0, q1, hc0, hrow⟩ := row_at (Kd.C_below HC.out hbr) hil
        obtain ⟨ap, rfl, s1⟩ := i64_at (Kd.C_below HP.out hbr) (show i < ws.length by rw [HL.out]; exact hil)
        have hrin := HIN.out _ (List.getElem_mem hil)
        have hy := HPN.out _ (List.getElem_mem (show i < ws.length by rw [HL.out]; exact hil))
        rw [List.drop_eq_getElem_cons hil, List.drop_eq_getElem_cons (show i < ws.length by rw [HL.out]; exact hil), List.map_cons, weighF] at hw
        obtain ⟨r, hr⟩ : ∃ r, l[i] = r := ⟨_, rfl⟩
        obtain ⟨y, hye⟩ : ∃ y, ws[i]'(by rw [HL.out]; exact hil) = y := ⟨_, rfl⟩
        have hrm : r ∈ l := by rw [← hr]; exact List.getElem_mem hil
        rw [hr] at q0 q1 hc0 hrow hw hrin
        rw [hye] at s1 hw hy
        obtain ⟨x, hxe⟩ : ∃ x, f r = x := ⟨_, rfl⟩
        rw [hxe] at hw
        rw [← HF.out] at hxe
        first
        | (have hk := HAT.out at_ rfl _ hrm
           obtain ⟨ar, rfl, s0⟩ := i64_at hrow hk
           have hxe' : r.f0[at_] = x := by rw [← hxe]; show _ = r.f0.getD at_ 0; rw [List.getD_eq_getElem?_getD, List.getElem?_eq_getElem hk]; rfl
           rw [hxe'] at s0
           have hx : In64 x := by rw [← hxe']; exact hrin.2 _ (List.getElem_mem hk)
           have e2 : (at_ < r.f0.length) = True := eq_true hk
           clear hxe' hk)
        | (have hxe' : r.f1 = x := hxe
           rw [hxe'] at q1
           have hx : In64 x := by rw [← hxe']; exact hrin.1
           clear hxe')
        obtain ⟨pv, one, hpv⟩ : ∃ a b, fitp (y * x) = (a, b) := ⟨_, _, rfl⟩
        obtain ⟨sv, two, hsv⟩ : ∃ a b, fitp (s + pv) = (a, b) := ⟨_, _, rfl⟩
        have HX := Lib.hid (And.intro hy hx)
        have HI := Lib.hid (And.intro hs (And.intro (fitp_in hpv) (fitp_in hsv)))
        have HV := Lib.hid (And.intro hpv hsv)
        have HW := Lib.hid hw
        have HJ := Lib.hid (And.intro hi hil)
        have HB := Lib.hid hbr
        have EW := Lib.hid (wrapj (show i + 1 < 9223372036854775808 by have := HMAX.out; omega))
        clear hr hrm hye hxe hx hy hrin hrow hc0 hpv hsv hw hi hil hbr hs
        go_wp2_with fail
        refine (Of_big HX.out.1 _).mono ?_
        rintro e w1 ⟨A1, n1, c1, rfl, hR1, hb1⟩
        go_wp2_with fail
        refine (Of_big HX.out.2 _).mono ?_
        rintro e w2 ⟨A2, n2, c2, rfl, hR2, hb2⟩
        go_wp2_with fail
        refine (Times_big _ (hR1.below hb2) hR2 (len1 HX.out.1) (len1 HX.out.2)).mono ?_
        rintro e w3 ⟨A3, n3, c3, rfl, hR3, hb3⟩
        go_wp2_with fail
        refine (Int_big _ hR3 (len2 HX.out.1 HX.out.2) (dn_abs _) HV.out.1).mono ?_
        rintro e w4 ⟨rfl, hb4⟩
        have h12 := hb1.trans (hb2.mono hb1.size)
        have h13 := h12.trans (hb3.mono h12.size)
        have h14 := h13.trans (hb4.mono h13.size)
        have HB4 := Lib.hid (HB.out.trans (h14.mono HB.out.size))
        have hw := HW.out
        rw [okI_of HV.out.1] at hw
        clear hR1 hR2 hR3 hb1 hb2 hb3 hb4 h12 h13 h14
        cases one
        · rw [if_neg (by decide), Option.bind_none] at hw
          subst hw
          go_wp2
          go_ret2
          exact ⟨rfl, HB4.out⟩
        · rw [if_pos rfl, Option.bind_some, okI_of HV.out.2] at hw
          go_wp2_with fail
          refine (Of_big HI.out.1 _).mono ?_
          rintro e w5 ⟨A5, n5, c5, rfl, hR5, hb5⟩
          go_wp2_with fail
          refine (Of_big HI.out.2.1 _).mono ?_
          rintro e w6 ⟨A6, n6, c6, rfl, hR6, hb6⟩
          go_wp2_with fail
          refine (Plus_big _ (hR5.below hb6) hR6 (len1 HI.out.1) (len1 HI.out.2.1)).mono ?_
          rintro e w7 ⟨A7, n7, c7, rfl, hR7, hb7⟩
          go_wp2_with fail
          refine (Int_big _ hR7 (add_len HI.out.1 HI.out.2.1) (dn_abs _) HV.out.2).mono ?_
          rintro e w8 ⟨rfl, hb8⟩
          have h12 := hb5.trans (hb6.mono hb5.size)
          have h13 := h12.trans (hb7.mono h12.size)
          have h14 := h13.trans (hb8.mono h13.size)
          have HB8 := Lib.hid (HB4.out.trans (h14.mono HB4.out.size))
          clear hR5 hR6 hR7 hb5 hb6 hb7 hb8 h12 h13 h14
          cases two
          · rw [if_neg (by decide), Option.bind_none] at hw
            subst hw
            go_wp2
            go_ret2
            exact ⟨rfl, HB8.out⟩
          · rw [if_pos rfl, Option.bind_some] at hw
            have HW2 := Lib.hid hw
            clear hw
            go_wp2
            refine ⟨⟨i + 1, sv, HJ.out.2, rfl, congrArg (Value.int .i64) EW.out, HI.out.2.2, HW2.out, HB8.out⟩, ?_⟩
            rw [EW.out]
            simp only [intOf, Int.toNat_natCast]
            exact meas_lt HJ.out.2
      · obtain rfl : i = l.length := by omega
        rw [List.drop_length, List.drop_of_length_le (Nat.le_of_eq HL.out)] at hw
        have hw' : some s = o := hw
        subst hw'
        have HB := Lib.hid hbr
        clear hw hbr
        go_wp2
        go_ret2
        exact ⟨rfl, HB.out⟩
end Go.Proofs.YtbpjnkeilhfajaaGreat.Rw
