/- WholeNone, walked. -/
import Derived.Test.YtbpjnkeilhfajaaGreatWnSh
namespace Go.Proofs.YtbpjnkeilhfajaaGreat.Rw
open Go.RowKit Go.Proofs.YtbpjnkeilhfajaaGreat.Given Go.Proofs.YtbpjnkeilhfajaaGreatW.PrintWords Go.Proofs.YtbpjnkeilhfajaaGreatW.PrintLast Go.Proofs.YtbpjnkeilhfajaaGreat.Num Go.Proofs.YtbpjnkeilhfajaaGreat.Ln Go.Proofs.YtbpjnkeilhfajaaGreat.Lin
set_option linter.unusedVariables false
set_option linter.unusedSimpArgs false
set_option maxHeartbeats 16000000 in
set_option maxRecDepth 100000 in
theorem whnone_any (l : List S40) (A : Option Addr) (c : Nat) (v f : Int) (w : World) (hC : Kd.C k40 w A l.length l) (hf : In64 f) :
  Calls Tryz.prog 9 #[.slice A l.length c, .int .i64 v, .int .i64 f] w fun e w' => e = .returned (.bool true) ∧ Below w.heap.size w w' := by
 obtain ⟨m, hm, -⟩ := and64k v
 obtain ⟨n, hn⟩ : ∃ n, m % 4 = n := ⟨_, rfl⟩
 have hv : Int.tmod (Go.bits .and .i64 v 65535) 4 = (n : Int) := by rw [← hn]; exact hm 4 (by decide)
 have HN := Lib.hid (show n ≤ 3 by omega)
 obtain ⟨F, hF⟩ : ∃ F, min f 200 = F := ⟨_, rfl⟩
 have HF := Lib.hid (show In64 F ∧ F.toNat ≤ 200 from ⟨⟨by have := hf.1; omega, by omega⟩, by omega⟩)
 have HC := Lib.hid hC
 obtain ⟨L, hL⟩ : ∃ L, smallL 3 n l = L := ⟨_, rfl⟩
 have HL := Lib.hid (show L.length ≤ 3 ∧ ∀ r, r ∈ L → Small9 n r by rw [← hL]; exact small_s9)
 obtain ⟨ans, p, hw⟩ : ∃ a p, wsolve (L.map toZ) n F (chkW (L.map toZ)) = (a, p) := ⟨_, _, rfl⟩
 have HW := Lib.hid hw
 have HPI := Lib.hid (show ∀ y, y ∈ p → In64 y by
  intro y hy
  refine wsolve_in (v := n) (f := F) (fun r hr => s9_in (HL.out.2 r hr)) y ?_
  rw [hw]; exact hy)
 have HLL := Lib.hid hL
 clear hC hn hm hf hL hw
 go_enter Tryz.func9, Tryz.ntmps9
 go_wp2_with fail
 refine (wshown_any _).mono ?_
 rintro e w1 ⟨rfl, hb1⟩
 go_wp2_with fail
 refine (small12_any l A c n w1 (Kd.C_below HC.out hb1) HN.out).mono ?_
 rintro e w2 ⟨vL, raws, rfl, hO, hb2⟩
 rw [HLL.out] at hO
 obtain ⟨A2, c2, rfl, hc2, hC2⟩ := hO.read (by have := HL.out.1; omega)
 have HB2 := Lib.hid (hb1.trans (hb2.mono hb1.size))
 have HC2 := Lib.hid hC2
 have HC2c := Lib.hid hc2
 clear hO hb1 hb2 hC2 hc2
 go_wp2_with fail
 refine (wsolve_at HC2.out HC2c.out (fun r hr => s9_in (HL.out.2 r hr)) HF.out.1 (by have := HL.out.1; have := HF.out.2; omega) HW.out).mono ?_
 rintro e w3 ⟨⟨A3, c3, rfl, hC3⟩, hb3⟩
 have HB3 := Lib.hid (HB2.out.trans (hb3.mono HB2.out.size))
 have HC3 := Lib.hid hC3
 have HC2' := Lib.hid (Kd.C_below HC2.out hb3)
 clear hC3 hb3
 by_cases h1 : ans = 1
 ·subst h1
  have hck := yes_chk HW.out
  have hln := wsolve_len HW.out
  rw [Int.toNat_natCast] at hln
  have HCK := Lib.hid hck
  rw [hln]
  have HLN := Lib.hid hln
  clear hck hln
  go_wp2_with fail
  rw [← HLN.out]
  refine (check12_any L p A2 A3 c2 c3 w3 HC2'.out HC3.out (fun r hr => s9_in (HL.out.2 r hr)) HPI.out).mono ?_
  rintro e w4 ⟨rfl, hb4⟩
  rw [HCK.out, HLN.out]
  have HB4 := Lib.hid (HB3.out.trans (hb4.mono HB3.out.size))
  clear hb4
  go_wp2
  go_ret
  exact ⟨rfl, HB4.out⟩
 ·have e1 : (ans == 1) = false := by simp [h1]
  clear h1
  by_cases h2 : ans = 2
  ·have e2 : (ans != 2) = false := by simp [h2]
   obtain ⟨b, hb, hS⟩ := some12_any L A2 c2 n 5 w3 HC2'.out HN.out (Nat.le_refl _) (by have := HL.out.1; omega) HL.out.2
   have hno := none_law (rows := L.map toZ) (v := n) (fuel := F) (by rw [HW.out]; exact h2) ((5 : Nat) : Int)
   rw [Int.toNat_natCast, ← hb] at hno
   have hbf : b = false := by cases b; rfl; exact absurd rfl hno
   subst hbf
   have HS := Lib.hid hS
   clear h2 hS hno hb
   go_wp2_with fail
   refine (HS.out).mono ?_
   rintro e w4 ⟨rfl, hb4⟩
   have HB4 := Lib.hid (HB3.out.trans (hb4.mono HB3.out.size))
   clear hb4
   go_wp2
   go_ret
   exact ⟨rfl, HB4.out⟩
  ·have e2 : (ans != 2) = true := by simp [h2]
   clear h2
   go_wp2
   go_ret
   exact ⟨rfl, HB3.out⟩
end Go.Proofs.YtbpjnkeilhfajaaGreat.Rw
