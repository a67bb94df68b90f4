/- WholeKnows, walked. -/
import Derived.Test.YtbpjnkeilhfajaaGreatWnSh
namespace Go.Proofs.YtbpjnkeilhfajaaGreat.Rw
open Go.RowKit Go.Proofs.YtbpjnkeilhfajaaGreat.Given Go.Proofs.YtbpjnkeilhfajaaGreatW.PrintWords Go.Proofs.YtbpjnkeilhfajaaGreatW.PrintLast Go.Proofs.YtbpjnkeilhfajaaGreat.Num Go.Proofs.YtbpjnkeilhfajaaGreat.Ln Go.Proofs.YtbpjnkeilhfajaaGreat.Lin
set_option linter.unusedVariables false
set_option linter.unusedSimpArgs false
set_option maxHeartbeats 16000000 in
set_option maxRecDepth 100000 in
theorem whknows_any (l : List S40) (A : Option Addr) (c : Nat) (v : Int) (w : World) (hC : Kd.C k40 w A l.length l) :
  Calls Tryz.prog 10 #[.slice A l.length c, .int .i64 v] w fun e w' => e = .returned (.bool true) ∧ Below w.heap.size w w' := by
 obtain ⟨m, hm, -⟩ := and64k v
 obtain ⟨n, hn⟩ : ∃ n, m % 4 = n := ⟨_, rfl⟩
 have hv : Int.tmod (Go.bits .and .i64 v 65535) 4 = (n : Int) := by rw [← hn]; exact hm 4 (by decide)
 have hn3 : n ≤ 3 := by omega
 have HN := Lib.hid hn3
 have HC := Lib.hid hC
 obtain ⟨S, hS⟩ : ∃ S, smallL 3 n l = S := ⟨_, rfl⟩
 have hS9 : S.length ≤ 3 ∧ ∀ r, r ∈ S → Small9 n r := by rw [← hS]; exact small_s9
 obtain ⟨L, hL⟩ : ∃ L, boxL n n ++ S = L := ⟨_, rfl⟩
 obtain ⟨hbz, hb9⟩ := box_z hn3
 have hl9 : ∀ r, r ∈ L → Small9 n r := by
  intro r hr
  rw [← hL] at hr
  rcases List.mem_append.1 hr with h | h
  ·exact hb9 r h
  ·exact hS9.2 r h
 have hll : L.length ≤ 9 := by rw [← hL, List.length_append, boxL_len]; have := hS9.1; omega
 have hlaw := knows_law hn3 (s9_z hS9.2) (by rw [List.length_map]; exact hS9.1)
 rw [← hbz, ← List.map_append, hL] at hlaw
 have HS9 := Lib.hid hS9
 have HL9 := Lib.hid (And.intro hl9 hll)
 have HLL := Lib.hid hL
 have HSS := Lib.hid hS
 have HLAW := Lib.hid hlaw
 clear hC hn hm hS hS9 hL hbz hb9 hl9 hll hlaw hn3
 go_enter Tryz.func10, Tryz.ntmps10
 go_wp2_with fail
 refine (wshown_any _).mono ?_
 rintro e w1 ⟨rfl, hb1⟩
 go_wp2_with fail
 refine (box12_any n w1 HN.out).mono ?_
 rintro e w2 ⟨vb, raws, rfl, hO, hb2⟩
 have HB2 := Lib.hid (hb1.trans (hb2.mono hb1.size))
 have HO := Lib.hid hO
 have hz2 := And.intro hb1.size hb2.size
 clear hO hb1 hb2
 go_wp2_with fail
 refine (small12_any l A c n w2 (Kd.C_below HC.out HB2.out) HN.out).mono ?_
 rintro e w3 ⟨vs, news, rfl, hO3, hb3⟩
 rw [HSS.out] at hO3
 obtain ⟨A3, c3, rfl, -, -⟩ := hO3.read (by have := HS9.out.1; omega)
 have HB3 := Lib.hid (HB2.out.trans (hb3.mono HB2.out.size))
 have HO3 := Lib.hid hO3
 have HOb := Lib.hid (HO.out.below hb3)
 have HZ := Lib.hid (And.intro hz2.1 (Nat.le_trans hz2.2 hb3.size))
 clear hO3 hb3 HO hz2
 go_wp2_with (at_builtin; refine wpList_appRead rfl (.tmp 15) (.tmp 18) rfl w1.heap.size _ (boxL n n) S raws news A3 S.length c3 rfl rfl HOb.out rfl HO3.out.raw.2 HO3.out.enc ?hl HZ.out.2 ?_; (case hl => rw [boxL_len]; have := HS9.out.1; have := HN.out; omega); intro v4 w4 HO4 HB4; obtain ⟨A4, c4, rfl, hc4, hC4⟩ := HO4.out.read (by rw [HLL.out]; have := HL9.out.2; omega); rw [HLL.out] at hc4 hC4 ⊢; have HC4 := Lib.hid hC4; have HC4c := Lib.hid hc4; clear hc4 hC4)
 have HB5 := Lib.hid (HB3.out.trans (HB4.out.mono HZ.out.1))
 have hin : ∀ r, r ∈ L → RowIn r := fun r hr => s9_in (HL9.out.1 r hr)
 rcases HLAW.out with ⟨p, hw, hpl, hck, hsm⟩ | ⟨hw, hno⟩
 ·have HPI := Lib.hid (show ∀ y, y ∈ p → In64 y by
   intro y hy
   refine wsolve_in (v := n) (f := 1000) hin y ?_
   rw [hw]; exact hy)
  have HK := Lib.hid (And.intro hpl hck)
  have HSM := Lib.hid hsm
  refine (wsolve_at HC4.out HC4c.out hin ⟨by decide, by decide⟩ (by have := HL9.out.2; omega) hw).mono ?_
  clear hw hpl hck hsm
  rintro e w5 ⟨⟨A5, c5, rfl, hC5⟩, hb5⟩
  have HC5 := Lib.hid hC5
  have HC4' := Lib.hid (Kd.C_below HC4.out hb5)
  have HB6 := Lib.hid (HB5.out.trans (hb5.mono HB5.out.size))
  obtain ⟨b, hb, hS⟩ := some12_any L A4 c4 n 3 w5 HC4'.out HN.out (by decide) (by have := HL9.out.2; omega) HL9.out.1
  obtain rfl : b = true := hb.2 HSM.out
  have HS := Lib.hid hS
  rw [HK.out.1]
  clear hC5 hb5 hb hS hin
  go_wp2_with fail
  refine HS.out.mono ?_
  rintro e w6 ⟨rfl, hb6⟩
  have HC5' := Lib.hid (Kd.C_below HC5.out hb6)
  have HC4'' := Lib.hid (Kd.C_below HC4'.out hb6)
  have HB7 := Lib.hid (HB6.out.trans (hb6.mono HB6.out.size))
  clear hb6
  go_wp2_with fail
  rw [← HK.out.1]
  refine (check12_any L p A4 A5 c4 c5 w6 HC4''.out HC5'.out (fun r hr => s9_in (HL9.out.1 r hr)) HPI.out).mono ?_
  rintro e w7 ⟨rfl, hb7⟩
  rw [HK.out.1, HK.out.2]
  have HB8 := Lib.hid (HB7.out.trans (hb7.mono HB7.out.size))
  clear hb7
  go_wp2
  go_ret
  exact ⟨rfl, HB8.out⟩
 ·have HNO := Lib.hid hno
  refine (wsolve_at HC4.out HC4c.out hin ⟨by decide, by decide⟩ (by have := HL9.out.2; omega) hw).mono ?_
  clear hw hno
  rintro e w5 ⟨⟨A5, c5, rfl, hC5⟩, hb5⟩
  have HC4' := Lib.hid (Kd.C_below HC4.out hb5)
  have HB6 := Lib.hid (HB5.out.trans (hb5.mono HB5.out.size))
  obtain ⟨b, hb, hS⟩ := some12_any L A4 c4 n 3 w5 HC4'.out HN.out (by decide) (by have := HL9.out.2; omega) HL9.out.1
  obtain rfl : b = false := by cases b; rfl; exact absurd (hb.1 rfl) HNO.out
  have HS := Lib.hid hS
  clear hC5 hb5 hb hS hin
  go_wp2_with fail
  refine HS.out.mono ?_
  rintro e w6 ⟨rfl, hb6⟩
  have HB7 := Lib.hid (HB6.out.trans (hb6.mono HB6.out.size))
  clear hb6
  go_wp2
  go_ret
  exact ⟨rfl, HB7.out⟩
end Go.Proofs.YtbpjnkeilhfajaaGreat.Rw
