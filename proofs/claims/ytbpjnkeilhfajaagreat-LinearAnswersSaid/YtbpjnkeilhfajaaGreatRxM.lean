/- ashlarref11.May, Good, ashlarlaw11.good, walked. -/
import Derived.Test.YtbpjnkeilhfajaaGreatRxY
import Derived.Test.YtbpjnkeilhfajaaGreatRxO
import Derived.Test.YtbpjnkeilhfajaaGreatRxB
namespace Go.Proofs.YtbpjnkeilhfajaaGreat.Rw
open Go.RowKit Go.Proofs.YtbpjnkeilhfajaaGreat.Given Go.Proofs.YtbpjnkeilhfajaaGreatW.PrintWords Go.Proofs.YtbpjnkeilhfajaaGreatW.PrintLast Go.Proofs.YtbpjnkeilhfajaaGreat.Num Go.Proofs.YtbpjnkeilhfajaaGreat.Ln Go.Proofs.YtbpjnkeilhfajaaGreat.Lin
set_option linter.unusedVariables false
set_option linter.unusedSimpArgs false

def GoodZ (z : List RowZ) (v : Int) (s : Int × List Rat × List Int) : Prop :=
  (s.1 = 1 ∧ s.2.2 = [] ∧ (s.2.1.length : Int) = v ∧ checkPoint z s.2.1 = true) ∨ (s.1 = 2 ∧ s.2.1 = [] ∧ checkFarkas z s.2.2 = true) ∨ (s.1 = 0 ∧ s.2.1 = [] ∧ s.2.2 = [])
theorem loop_shape {n : Nat} : ∀ (f : Nat) (t : Tab) (s : Int × List Rat × List Int), loop n f t = some s → (s.1 = 1 ∧ s.2.2 = []) ∨ (s.1 = 2 ∧ s.2.1 = []) ∨ (s.1 = 0 ∧ s.2.1 = [] ∧ s.2.2 = []) := by
  intro f
  induction f with
  | zero =>
    intro t s h
    unfold loop at h
    cases h1 : wrong n t with
    | none => rw [h1] at h; cases h; exact .inl ⟨rfl, rfl⟩
    | some a =>
      rw [h1] at h
      dsimp only at h
      cases h2 : helps n t a with
      | none => rw [h2] at h; obtain ⟨w, _, rfl⟩ := Option.map_eq_some_iff.1 h; exact .inr (.inl ⟨rfl, rfl⟩)
      | some v => rw [h2] at h; cases h; exact .inr (.inr ⟨rfl, rfl, rfl⟩)
  | succ f ih =>
    intro t s h
    unfold loop at h
    cases h1 : wrong n t with
    | none => rw [h1] at h; cases h; exact .inl ⟨rfl, rfl⟩
    | some a =>
      rw [h1] at h
      dsimp only at h
      cases h2 : helps n t a with
      | none => rw [h2] at h; obtain ⟨w, _, rfl⟩ := Option.map_eq_some_iff.1 h; exact .inr (.inl ⟨rfl, rfl⟩)
      | some v =>
        rw [h2] at h
        obtain ⟨t', _, h3⟩ := Option.bind_eq_some_iff.1 h
        exact ih t' s h3
theorem sol_good {z : List RowZ} {v : Int} (f : Int) (h : mayQ z v = true) : GoodZ z v (solve z v f) := by
  rcases solve_cases z v f with ⟨e, _⟩ | ⟨_, a, p, w, hm, e, hn⟩
  · rw [e]; exact .inr (.inr ⟨rfl, rfl, rfl⟩)
  · obtain ⟨t, _, hl⟩ := Option.bind_eq_some_iff.1 hm
    rcases loop_shape _ _ _ hl with ⟨h1, h2⟩ | ⟨h1, h2⟩ | h3
    · have h1' : a = 1 := h1
      have h2' : w = [] := h2
      subst h1' h2'
      have hc : checkPoint z p = true := by
        cases hq : checkPoint z p with
        | true => rfl
        | false => exact absurd (.inl ⟨rfl, hq⟩) hn
      rw [e]
      refine .inl ⟨rfl, rfl, ?_, hc⟩
      obtain ⟨m1, m2, m3, m4⟩ := mayQ_true h
      cases z with
      | nil =>
        rw [solve_nil, if_pos ⟨m1, m2⟩] at e
        cases e
        show ((List.replicate v.toNat (0 : Rat)).length : Int) = v
        rw [List.length_replicate]; omega
      | cons r t =>
        unfold checkPoint at hc
        rw [List.all_cons, Bool.and_eq_true] at hc
        have hc1 := hc.1
        unfold checkRow at hc1
        rw [Bool.and_eq_true] at hc1
        have := of_decide_eq_true hc1.1
        have := m4 r List.mem_cons_self
        show (p.length : Int) = v
        omega
    · have h1' : a = 2 := h1
      have h2' : p = [] := h2
      subst h1' h2'
      have hc : checkFarkas z w = true := by
        cases hq : checkFarkas z w with
        | true => rfl
        | false => exact absurd (.inr ⟨rfl, hq⟩) hn
      rw [e]
      exact .inr (.inl ⟨rfl, rfl, hc⟩)
    · rw [e]; exact .inr (.inr h3)

set_option maxHeartbeats 4000000 in
theorem may11_any (l : List S40) (v : Int) (A : Option Addr) (c : Nat) (w : World) (hC : Kd.C k40 w A l.length l) :
    Calls Tryz.prog 21 #[.slice A l.length c, .int .i64 v] w fun e w' => e = .returned (.bool (mayQ (l.map toZ) v)) ∧ Below w.heap.size w w' := by
  obtain ⟨res, hres⟩ : ∃ res, mayQ (l.map toZ) v = res := ⟨_, rfl⟩
  rw [hres]
  have HC := Lib.hid hC
  have HRES := Lib.hid hres
  have HMAX := Lib.hid (show l.length ≤ 9223372036854775807 from Kd.C_max hC)
  clear hC hres
  go_enter Tryz.func21, Tryz.ntmps21
  go_wp2
  go_loopw [5] (fun v4 wr => ∃ i : Nat, i ≤ l.length ∧ v4 = .int .i64 i ∧ Hid (∀ j (hj : j < l.length), j < i → (l[j].f0.length : Int) = v) ∧ w = wr) (fun v4 _ => l.length - (intOf v4).toNat)
  case atStart => exact ⟨0, Nat.zero_le _, rfl, Lib.hid (fun j _ h => absurd h (Nat.not_lt_zero _)), rfl⟩
  case round =>
    obtain ⟨i, hi, rfl, hall, rfl⟩ := hrel
    by_cases hil : i < l.length
    · have e1 : (i < l.length) = True := eq_true hil
      obtain ⟨ad, A0, c0, rfl, z0, z1, hc0, hrow⟩ := row_at HC.out hil
      have hrm := List.getElem_mem hil
      obtain ⟨r, hr⟩ : ∃ r, l[i] = r := ⟨_, rfl⟩
      rw [hr] at z0 hrm
      have HR := Lib.hid hrm
      have HRE := Lib.hid (show ∀ hj : i < l.length, l[i] = r from fun _ => hr)
      have HI := Lib.hid (And.intro hi hil)
      have EW := Lib.hid (wrapj (show i + 1 < 9223372036854775808 by have := HMAX.out; omega))
      clear z1 hc0 hrow hrm hr hi
      clear hil
      by_cases hl : (r.f0.length : Int) = v
      · have e2 : ((r.f0.length : Int) != v) = false := by simp [hl]
        have HL := Lib.hid hl
        clear hl
        go_wp2
        refine ⟨⟨i + 1, HI.out.2, congrArg (Value.int .i64) EW.out, Lib.hid (fun j hj hji => ?_), trivial⟩, ?_⟩
        · rcases Nat.lt_succ_iff_lt_or_eq.1 hji with h | rfl
          · exact hall.out j hj h
          · rw [HRE.out]; exact HL.out
        · rw [EW.out]
          simp only [intOf, Int.toNat_natCast]
          exact meas_lt HI.out.2
      · have e2 : ((r.f0.length : Int) != v) = true := by simp [hl]
        obtain rfl : res = false := by
          rw [← HRES.out]
          cases hq : mayQ (l.map toZ) v with
          | false => rfl
          | true => exact absurd ((mayQ_true hq).2.2.2 (toZ r) (List.mem_map_of_mem HR.out)) hl
        clear hl
        go_wp2
        go_ret
        exact ⟨rfl, Below.refl _ _⟩
    · have hi' : i = l.length := by omega
      subst i
      have e1 : (l.length < l.length) = False := eq_false (Nat.lt_irrefl _)
      have hb : (decide (0 ≤ v) && decide (v ≤ 64) && decide (l.length ≤ 256)) = res := by
        rw [← HRES.out]
        unfold mayQ
        rw [List.length_map, show ((l.map toZ).all fun r => decide ((r.1.length : Int) = v)) = true by
          rw [List.all_eq_true]
          intro z hz
          obtain ⟨r, hr, rfl⟩ := List.mem_map.1 hz
          obtain ⟨j, hj, rfl⟩ := List.getElem_of_mem hr
          exact decide_eq_true (hall.out j hj hj), Bool.and_true]
      have HB := Lib.hid hb
      clear hb hi hil hall
      by_cases h1 : 0 ≤ v
      · have f1 : (0 ≤ v) = True := eq_true h1
        by_cases h2 : v ≤ 64
        · have f2 : (v ≤ 64) = True := eq_true h2
          by_cases h3 : l.length ≤ 256
          · have f3 : (l.length ≤ 256) = True := eq_true h3
            have f3' : ((l.length : Int) ≤ 256) = True := eq_true (by omega)
            obtain rfl : res = true := by rw [← HB.out]; simp [h1, h2, h3]
            clear h1 h2 h3
            go_wp2
            go_ret
            exact ⟨rfl, Below.refl _ _⟩
          · have f3 : (l.length ≤ 256) = False := eq_false h3
            have f3' : ((l.length : Int) ≤ 256) = False := eq_false (by omega)
            obtain rfl : res = false := by rw [← HB.out]; simp [h3]
            clear h1 h2 h3
            go_wp2
            go_ret
            exact ⟨rfl, Below.refl _ _⟩
        · have f2 : (v ≤ 64) = False := eq_false h2
          obtain rfl : res = false := by rw [← HB.out]; simp [h2]
          clear h1 h2
          go_wp2
          go_ret
          exact ⟨rfl, Below.refl _ _⟩
      · have f1 : (0 ≤ v) = False := eq_false h1
        obtain rfl : res = false := by rw [← HB.out]; simp [h1]
        clear h1
        go_wp2
        go_ret
        exact ⟨rfl, Below.refl _ _⟩
end Go.Proofs.YtbpjnkeilhfajaaGreat.Rw
