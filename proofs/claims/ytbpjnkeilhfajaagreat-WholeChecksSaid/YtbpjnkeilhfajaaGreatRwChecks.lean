/- WholeChecks, walked. -/
import Derived.Test.YtbpjnkeilhfajaaGreatRwF12
import Derived.Test.YtbpjnkeilhfajaaGreatWnSh
namespace Go.Proofs.YtbpjnkeilhfajaaGreat.Rw
open Go.RowKit Go.Proofs.YtbpjnkeilhfajaaGreat.Given Go.Proofs.YtbpjnkeilhfajaaGreatW.PrintWords Go.Proofs.YtbpjnkeilhfajaaGreatW.PrintLast Go.Proofs.YtbpjnkeilhfajaaGreat.Num Go.Proofs.YtbpjnkeilhfajaaGreat.Ln Go.Proofs.YtbpjnkeilhfajaaGreat.Lin
set_option linter.unusedVariables false
set_option linter.unusedSimpArgs false
set_option maxHeartbeats 16000000 in
set_option maxRecDepth 100000 in
theorem whchecks_any (l : List S40) (A : Option Addr) (c : Nat) (p : List Int) (A' : Option Addr) (c' : Nat) (w : World) (hC : Kd.C k40 w A l.length l) (hP : (Kd.int .i64).C w A' p.length p) (hc' : p.length ≤ c') (hin : ∀ r, r ∈ l → RowIn r) (hpi : ∀ x, x ∈ p → In64 x) :
  Calls Tryz.prog 8 #[.slice A l.length c, .slice A' p.length c'] w fun e w' => e = .returned (.bool true) ∧ Below w.heap.size w w' := by
 have HC := Lib.hid hC
 have HP := Lib.hid hP
 have HF := Lib.hid (few_in hin)
 obtain ⟨L, hL⟩ : ∃ L, fewL l = L := ⟨_, rfl⟩
 rw [hL] at HF
 have HL := Lib.hid hL
 obtain ⟨q, hq⟩ : ∃ q, p.take 70 = q := ⟨_, rfl⟩
 have hql : q.length = min p.length 70 := by rw [← hq, List.length_take, Nat.min_comm]
 have HQ := Lib.hid (show q.length ≤ 70 ∧ ∀ x, x ∈ q → In64 x from ⟨by omega, fun x hx => hpi x (by rw [← hq] at hx; exact List.mem_of_mem_take hx)⟩)
 have hCq : (Kd.int .i64).C w A' q.length q := by
  have h := Kd.C_take hP (show min p.length 70 ≤ p.length by omega)
  rw [take_min, hq] at h
  exact h
 have HCq := Lib.hid hCq
 have em : min (p.length : Int) 70 = ((q.length : Nat) : Int) := by rw [hql]; omega
 have b1 : (q.length ≤ c') = True := eq_true (by omega)
 have b2 : ((q.length : Int) ≤ (c' : Int)) = True := eq_true (by omega)
 have b3 : (q.length ≤ p.length) = True := eq_true (by omega)
 clear hC hP hin hpi hL hq hql hCq
 go_enter Tryz.func8, Tryz.ntmps8
 go_wp2_with fail
 refine (wshown_any _).mono ?_
 rintro e w1 ⟨rfl, hb1⟩
 go_wp2_with fail
 refine (few12_any l A c w1 (Kd.C_below HC.out hb1)).mono ?_
 rintro e w2 ⟨vL, raws, rfl, hO, hb2⟩
 rw [HL.out] at hO
 obtain ⟨A2, c2, rfl, hc2, hC2⟩ := hO.read (by have := HF.out.1; omega)
 have HB2 := Lib.hid (hb1.trans (hb2.mono hb1.size))
 have HC2 := Lib.hid hC2
 have HC2c := Lib.hid hc2
 clear hO hb1 hb2 hC2 hc2
 have HI0 := Lib.hid (show RowI (w2.alloc (.cells #[] 2)) w2.heap.size (.slice (some ⟨w2.heap.size, 0, none⟩) 0 0) [] from rowI_empty (Lib.hid ⟨blk_new _ _, by simp⟩) (Nat.le_refl _))
 have HB3 := Lib.hid (show Below w2.heap.size w2 (w2.alloc (.cells #[] 2)) from (Below.refl _ _).alloc (Nat.le_refl _) _)
 go_wp2_with (at_builtin; refine wpList_appIR rfl (.tmp 9) (.tmp 14) rfl w2.heap.size _ [] rfl HI0.out A' q.length _ q rfl rfl (Kd.C_below HCq.out (HB2.out.trans (HB3.out.mono HB2.out.size))) (by have := HQ.out.1; simp; omega) HB3.out.size ?_; intro v3 w3 HI3 HB4; obtain ⟨A3, c3, rfl, hC3⟩ := rowI_read HI3.out; have HC3 := Lib.hid hC3; clear hC3)
 have HB5 := Lib.hid (HB3.out.trans HB4.out)
 have HB6 := Lib.hid (HB2.out.trans (HB5.out.mono HB2.out.size))
 have HC2' := Lib.hid (Kd.C_below HC2.out HB5.out)
 rw [List.nil_append] at HC3
 have hin : ∀ r, r ∈ L → RowIn r := fun r hr => (HF.out.2 r hr).1
 refine (wcheck_any L q A2 A3 c2 c3 w3 HC2'.out HC2c.out HC3.out hin HQ.out.2).mono ?_
 rintro e w4 ⟨rfl, hb7⟩
 obtain ⟨b, hb⟩ : ∃ b, chkW (L.map toZ) q = b := ⟨_, rfl⟩
 rw [hb]
 have HBb := Lib.hid hb
 have HB7 := Lib.hid (HB6.out.trans (hb7.mono HB6.out.size))
 have HC2'' := Lib.hid (Kd.C_below HC2'.out hb7)
 have HC3' := Lib.hid (Kd.C_below HC3.out hb7)
 clear hb hb7 hin
 go_wp2_with fail
 refine (check12_any L q A2 A3 c2 c3 w4 HC2''.out HC3'.out (fun r hr => (HF.out.2 r hr).1) HQ.out.2).mono ?_
 rintro e w5 ⟨rfl, hb8⟩
 rw [HBb.out]
 have HB8 := Lib.hid (HB7.out.trans (hb8.mono HB7.out.size))
 clear hb8
 cases b
 ·go_wp2
  go_ret
  exact ⟨rfl, HB8.out⟩
 ·go_wp2
  go_ret
  exact ⟨rfl, HB8.out⟩
end Go.Proofs.YtbpjnkeilhfajaaGreat.Rw
