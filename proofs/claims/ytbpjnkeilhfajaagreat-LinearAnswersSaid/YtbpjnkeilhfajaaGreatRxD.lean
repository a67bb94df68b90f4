/- ashlarref11.CheckPoint, walked. -/
import Derived.Test.YtbpjnkeilhfajaaGreatRxX
import Derived.Test.YtbpjnkeilhfajaaGreatRxC
namespace Go.Proofs.YtbpjnkeilhfajaaGreat.Rw
open Go.RowKit Go.Proofs.YtbpjnkeilhfajaaGreat.Given Go.Proofs.YtbpjnkeilhfajaaGreatW.PrintWords Go.Proofs.YtbpjnkeilhfajaaGreatW.PrintLast Go.Proofs.YtbpjnkeilhfajaaGreat.Num Go.Proofs.YtbpjnkeilhfajaaGreat.Ln Go.Proofs.YtbpjnkeilhfajaaGreat.Lin
set_option linter.unusedVariables false
set_option linter.unusedSimpArgs false

theorem checkRow_eq (r : RowZ) (p : List Rat) : checkRow r p = (decide (r.1.length = p.length) && okQE (holdF r.1 p (r.2 : Rat))) := rfl

set_option maxHeartbeats 16000000 in
set_option maxRecDepth 100000 in
theorem point11_any (l : List S40) (pts : List S28) (A A' : Option Addr) (c c' : Nat) (w : World) (hC : Kd.C k40 w A l.length l) (hX : Kd.C k28 w A' pts.length pts) (hin : ∀ r, r ∈ l → RowIn r) (hp : ∀ x, x ∈ pts → In64 x.f0 ∧ In64 x.f1) :
    Calls Tryz.prog 40 #[.slice A l.length c, .slice A' pts.length c'] w fun e w' => e = .returned (.bool (chkP l pts)) ∧ Below w.heap.size w w' := by
  obtain ⟨res, hres⟩ : ∃ res, chkP l pts = res := ⟨_, rfl⟩
  rw [hres]
  unfold chkP at hres
  have HC := Lib.hid hC
  have HX := Lib.hid hX
  have HIN := Lib.hid hin
  have HP := Lib.hid hp
  have HRES := Lib.hid hres
  have HMAX := Lib.hid (show l.length ≤ 9223372036854775807 from Kd.C_max hC)
  obtain ⟨n, hn⟩ : ∃ n, pts.length = n := ⟨_, rfl⟩
  have HN := Lib.hid hn
  have HMAX2 := Lib.hid (show n ≤ 9223372036854775807 by rw [← hn]; exact Kd.C_max hX)
  rw [hn]
  clear hC hX hin hp hres hn
  go_enter Tryz.func40, Tryz.ntmps40
  go_wp2
  go_loopw [5] (fun v5 wr => ∃ i : Nat, i ≤ n ∧ v5 = .int .i64 i ∧ Hid (∀ j (hj : j < pts.length), j < i → rightS pts[j] = true) ∧ Hid (Below w.heap.size w wr)) (fun v5 _ => n - (intOf v5).toNat)
  case atStart => exact ⟨0, Nat.zero_le _, rfl, Lib.hid (fun j _ h => absurd h (Nat.not_lt_zero _)), Lib.hid (Below.refl _ _)⟩
  case round =>
    obtain ⟨i, hi, rfl, hall, HB⟩ := hrel
    by_cases hil : i < n
    · have e1 : (i < n) = True := eq_true hil
      have hip : i < pts.length := by rw [HN.out]; exact hil
      obtain ⟨ap, rfl, s1, s2⟩ := el_Q HX.out hip
      have hx := HP.out _ (List.getElem_mem hip)
      have hm := List.getElem_mem hip
      obtain ⟨x, hxe⟩ : ∃ x, pts[i] = x := ⟨_, rfl⟩
      rw [hxe] at s1 s2 hx hm
      replace s1 := kcell HB.out s1
      replace s2 := kcell HB.out s2
      have HI := Lib.hid (And.intro hi hil)
      have HXX := Lib.hid (And.intro hx hm)
      have HXE0 := hxe
      have HXE := Lib.hid (show ∀ hj : i < pts.length, pts[i] = x from fun _ => hxe)
      have EW := Lib.hid (wrapj (show i + 1 < 9223372036854775808 by have := HMAX2.out; omega))
      obtain ⟨b, hb⟩ : ∃ b, rightPQ x.f0 x.f1 = b := ⟨_, rfl⟩
      have HBB := Lib.hid hb
      clear HXE0 hxe
      clear hi hil hx hm hb
      go_wp2_with fail
      refine (right11_any x.f0 x.f1 _ HXX.out.1.1 HXX.out.1.2).mono ?_
      rintro e w2 ⟨rfl, hb2⟩
      rw [HBB.out]
      have HB2 := Lib.hid (HB.out.trans (hb2.mono HB.out.size))
      clear hb2
      cases b with
      | false =>
        obtain rfl : res = false := by
          rw [← HRES.out]
          cases hq : pts.all rightS with
          | false => rfl
          | true =>
            have h := List.all_eq_true.1 hq x HXX.out.2
            rw [show rightS x = false from HBB.out] at h
            cases h
        go_wp2
        go_ret
        exact ⟨rfl, HB2.out⟩
      | true =>
        go_wp2
        refine ⟨⟨i + 1, HI.out.2, congrArg (Value.int .i64) EW.out, Lib.hid (fun j hj hji => ?_), HB2⟩, ?_⟩
        · rcases Nat.lt_succ_iff_lt_or_eq.1 hji with h | rfl
          · exact hall.out j hj h
          · rw [HXE.out]; exact HBB.out
        · rw [EW.out]
          simp only [intOf, Int.toNat_natCast]
          exact meas_lt HI.out.2
    · have hi' : i = n := by omega
      subst i
      have e1 : (n < n) = False := eq_false (Nat.lt_irrefl _)
      have hq : pts.all rightS = true := by
        rw [List.all_eq_true]
        intro x hx
        obtain ⟨j, hj, rfl⟩ := List.getElem_of_mem hx
        exact hall.out j hj (by rw [← HN.out]; exact hj)
      have hres := HRES.out
      rw [hq, Bool.true_and] at hres
      obtain ⟨hpe, hfit⟩ := pts_is hq HP.out
      obtain ⟨xs, hxs⟩ : ∃ xs, pts.map toQ = xs := ⟨_, rfl⟩
      rw [hxs] at hpe hfit hres
      have hxn : xs.length = n := by rw [← hxs, List.length_map, HN.out]
      have HR2 := Lib.hid hres
      have HXS := Lib.hid (And.intro hpe (And.intro hfit hxn))
      clear hi hil hq hres hpe hfit hxs hall HP HRES hxn
      go_wp2
      go_loopw [7] (fun v7 wq => ∃ i : Nat, i ≤ l.length ∧ v7 = .int .i64 i ∧ Hid (checkPoint ((l.drop i).map toZ) xs = res) ∧ Hid (Below w.heap.size w wq)) (fun v7 _ => l.length - (intOf v7).toNat)
      case atStart => exact ⟨0, Nat.zero_le _, rfl, HR2, HB⟩
      case round =>
        obtain ⟨i, hi, rfl, hck, HBQ⟩ := hrel
        by_cases hil : i < l.length
        · have e2 : (i < l.length) = True := eq_true hil
          obtain ⟨ad, A0, c0, rfl, z0, z1, hc0, hrow⟩ := row_at HC.out hil
          have hck := hck.out
          rw [List.drop_eq_getElem_cons hil, List.map_cons] at hck
          have hrin := HIN.out _ (List.getElem_mem hil)
          obtain ⟨r, hr⟩ : ∃ r, l[i] = r := ⟨_, rfl⟩
          rw [hr] at z0 z1 hc0 hrow hck hrin
          replace z0 := kcell HBQ.out z0
          replace z1 := kcell HBQ.out z1
          have EW := Lib.hid (wrapj (show i + 1 < 9223372036854775808 by have := HMAX.out; omega))
          unfold checkPoint at hck
          rw [List.all_cons, checkRow_eq, HXS.out.2.2] at hck
          have HCK := Lib.hid (show (decide (r.f0.length = n) && okQE (holdF r.f0 xs (r.f1 : Rat)) && checkPoint ((l.drop (i + 1)).map toZ) xs) = res from hck)
          have HROW := Lib.hid hrow
          have HRIN := Lib.hid hrin
          have HI := Lib.hid (And.intro hi hil)
          clear hi hil hck hr hrow hrin hc0
          by_cases hl : r.f0.length = n
          · rw [hl] at z0
            have HL := Lib.hid hl
            obtain ⟨o, ho⟩ : ∃ o, okQE (holdF r.f0 xs (r.f1 : Rat)) = o := ⟨_, rfl⟩
            have hck := HCK.out
            rw [decide_eq_true hl, Bool.true_and, ho] at hck
            have HCK2 := Lib.hid hck
            have HOO := Lib.hid ho
            clear hl hck ho HCK
            go_wp2_with fail
            have hh := holds11_any r.f0 r.f1 xs A0 A' c0 c' wr (by rw [HL.out, HXS.out.2.2]) (Kd.C_below HROW.out HBQ.out) (by rw [← HXS.out.1]; exact Kd.C_below HX.out HBQ.out) HRIN.out.1 HRIN.out.2 HXS.out.2.1
            rw [HL.out, HXS.out.2.2, HOO.out] at hh
            refine hh.mono ?_
            clear hh
            rintro e w3 ⟨rfl, hb3⟩
            have HB3 := Lib.hid (HBQ.out.trans (hb3.mono HBQ.out.size))
            clear hb3
            cases o with
            | false =>
              obtain rfl : res = false := HCK2.out.symm
              go_wp2
              go_ret
              exact ⟨rfl, HB3.out⟩
            | true =>
              go_wp2
              refine ⟨⟨i + 1, HI.out.2, congrArg (Value.int .i64) EW.out, HCK2, HB3⟩, ?_⟩
              rw [EW.out]
              simp only [intOf, Int.toNat_natCast]
              exact meas_lt HI.out.2
          · have e3 : ((r.f0.length : Int) != (n : Int)) = true := by rw [bne_iff_ne]; omega
            obtain rfl : res = false := by rw [← HCK.out, decide_eq_false hl]; rfl
            clear hl
            go_wp2
            go_ret
            exact ⟨rfl, HBQ.out⟩
        · have hi' : i = l.length := by omega
          subst i
          have e2 : (l.length < l.length) = False := eq_false (Nat.lt_irrefl _)
          have h := hck.out
          rw [List.drop_length] at h
          obtain rfl : res = true := h.symm
          clear hi hil h hck
          go_wp2
          go_ret
          exact ⟨rfl, HBQ.out⟩
end Go.Proofs.YtbpjnkeilhfajaaGreat.Rw
