/- LinearAnswers, walked. -/
import Derived.Test.YtbpjnkeilhfajaaGreatRxY
import Derived.Test.YtbpjnkeilhfajaaGreatRxG
import Derived.Test.YtbpjnkeilhfajaaGreatRxS
import Derived.Test.YtbpjnkeilhfajaaGreatRxF
import Derived.Test.YtbpjnkeilhfajaaGreatLnShown
namespace Go.Proofs.YtbpjnkeilhfajaaGreat.Rw
open Go.RowKit Go.Proofs.YtbpjnkeilhfajaaGreat.Given Go.Proofs.YtbpjnkeilhfajaaGreatW.PrintWords Go.Proofs.YtbpjnkeilhfajaaGreatW.PrintLast Go.Proofs.YtbpjnkeilhfajaaGreat.Num Go.Proofs.YtbpjnkeilhfajaaGreat.Ln Go.Proofs.YtbpjnkeilhfajaaGreat.Lin
set_option linter.unusedVariables false
set_option linter.unusedSimpArgs false

theorem few_few (l : List S40) : fewL (fewL l) = fewL l := by
  unfold fewL
  rw [← List.map_take, List.take_take, Nat.min_self, List.map_map]
  congr 1
  funext r
  show (⟨(r.f0.take 70).take 70, r.f1⟩ : S40) = ⟨r.f0.take 70, r.f1⟩
  rw [List.take_take, Nat.min_self]
/-- What Solve answers, its rows read. -/
theorem sol_at {l : List S40} {A : Option Addr} {c : Nat} {v f : Int} {w : World} {a : Int} {p : List Rat} {ws : List Int} (hC : Kd.C k40 w A l.length l) (hc : l.length ≤ c) (hin : ∀ r, r ∈ l → RowIn r) (hf : In64 f) (h : solve (l.map toZ) v f = (a, p, ws)) :
    Calls Tryz.prog 19 #[.slice A l.length c, .int .i64 v, .int .i64 f] w fun e w' => (∃ A1 c1 A2 c2, e = .returned (.tuple #[.int .i64 a, .slice A1 p.length c1, .slice A2 ws.length c2]) ∧ Kd.C k28 w' A1 p.length (p.map ofQ) ∧ (Kd.int .i64).C w' A2 ws.length ws) ∧ Below w.heap.size w w' := by
  refine (Solve_any l A c v f w hC hc hin hf).mono ?_
  rw [h]
  rintro e w' ⟨⟨vp, vw, rfl, hp, hw⟩, hb⟩
  obtain ⟨A1, c1, rfl, h1, h2⟩ := Kd.R_reads (RowQ.toR hp)
  obtain ⟨A2, c2, rfl, h3, h4⟩ := Kd.R_reads (RowI.toR hw)
  rw [List.length_map] at h1 h2 ⊢
  exact ⟨⟨A1, c1, A2, c2, rfl, h2, h4⟩, hb⟩

set_option maxHeartbeats 16000000 in
set_option maxRecDepth 100000 in
theorem linanswers_any (l : List S40) (A : Option Addr) (c : Nat) (v f : Int) (w : World) (hC : Kd.C k40 w A l.length l) (hin : ∀ r, r ∈ l → RowIn r) (hf : In64 f) :
    Calls Tryz.prog 4 #[.slice A l.length c, .int .i64 v, .int .i64 f] w fun e w' => e = .returned (.bool true) ∧ Below w.heap.size w w' := by
  have HC := Lib.hid hC
  have HF := Lib.hid (few_in hin)
  have HFF := Lib.hid (few_few l)
  obtain ⟨L, hL⟩ : ∃ L, fewL l = L := ⟨_, rfl⟩
  rw [hL] at HF HFF
  have HL := Lib.hid hL
  obtain ⟨g, hg⟩ : ∃ g, min f 300 = g := ⟨_, rfl⟩
  have HG := Lib.hid (show In64 g by unfold In64 at *; omega)
  obtain ⟨a, p, ws, hs⟩ : ∃ a p ws, solve (L.map toZ) v g = (a, p, ws) := ⟨_, _, _, rfl⟩
  have HS := Lib.hid hs
  have HFIT := Lib.hid (solve_fit (fun r hr => (HF.out.2 r hr).1) v g)
  rw [hs] at HFIT
  obtain ⟨m, hm⟩ : ∃ m, mayQ (L.map toZ) v = m := ⟨_, rfl⟩
  have HM := Lib.hid hm
  clear hC hin hf hL hs hm
  go_enter Tryz.func4, Tryz.ntmps4
  go_wp2_with fail
  refine (shown_any _).mono ?_
  rintro e w1 ⟨rfl, hb1⟩
  go_wp2_with fail
  refine (few11_any l A c w1 (Kd.C_below HC.out hb1)).mono ?_
  rintro e w2 ⟨vL, raws, rfl, hO, hb2⟩
  rw [HL.out] at hO
  obtain ⟨A4, c4, rfl, hc4, hC4⟩ := hO.read (by have := HF.out.1; omega)
  have HB2 := Lib.hid (hb1.trans (hb2.mono hb1.size))
  have HC4 := Lib.hid hC4
  have HC4c := Lib.hid hc4
  clear hO hb1 hb2 hC4 hc4
  go_wp2_with fail
  refine (few11_any L A4 c4 w2 HC4.out).mono ?_
  rintro e w3 ⟨vM, raws2, rfl, hO, hb3⟩
  rw [HFF.out] at hO
  obtain ⟨A5, c5, rfl, hc5, hC5⟩ := hO.read (by have := HF.out.1; omega)
  have HB3 := Lib.hid (HB2.out.trans (hb3.mono HB2.out.size))
  have HC5 := Lib.hid hC5
  have HC4 := Lib.hid (Kd.C_below HC4.out hb3)
  clear hO hb3 hC5 hc5 HB2
  go_wp2_with fail
  refine (sol_at HC4.out HC4c.out (fun r hr => (HF.out.2 r hr).1) HG.out HS.out).mono ?_
  rintro e w4 ⟨⟨A6, c6, A7, c7, rfl, hC6, hC7⟩, hb4⟩
  have HB4 := Lib.hid (HB3.out.trans (hb4.mono HB3.out.size))
  have HC4 := Lib.hid (Kd.C_below HC4.out hb4)
  have HC5 := Lib.hid (Kd.C_below HC5.out hb4)
  have HC6 := Lib.hid hC6
  have HC7 := Lib.hid hC7
  clear hb4 hC6 hC7 HB3
  go_wp2_with fail
  refine (same11_any L A4 A5 c4 c5 w4 HC4.out HC5.out).mono ?_
  rintro e w5 ⟨rfl, hb5⟩
  have HB5 := Lib.hid (HB4.out.trans (hb5.mono HB4.out.size))
  have HC4 := Lib.hid (Kd.C_below HC4.out hb5)
  have HC6 := Lib.hid (Kd.C_below HC6.out hb5)
  have HC7 := Lib.hid (Kd.C_below HC7.out hb5)
  clear hb5 HB4 HC5
  go_wp2_with fail
  refine (may11_any L v A4 c4 w5 HC4.out).mono ?_
  rintro e w6 ⟨rfl, hb6⟩
  rw [HM.out]
  have HB6 := Lib.hid (HB5.out.trans (hb6.mono HB5.out.size))
  have HC4 := Lib.hid (Kd.C_below HC4.out hb6)
  have HC6 := Lib.hid (Kd.C_below HC6.out hb6)
  have HC7 := Lib.hid (Kd.C_below HC7.out hb6)
  clear hb6 HB5
  cases m with
  | false =>
    have h := solve_may (f := g) HM.out
    rw [HS.out] at h
    obtain ⟨rfl, h2⟩ := Prod.mk.inj h
    obtain ⟨rfl, rfl⟩ := Prod.mk.inj h2
    clear h h2
    go_wp2
    go_ret
    exact ⟨rfl, HB6.out⟩
  | true =>
    have hgd := sol_good g HM.out
    rw [HS.out] at hgd
    have hpl : p.length ≤ 100000 := by
      obtain ⟨_, h64, _, _⟩ := mayQ_true HM.out
      rcases hgd with ⟨_, _, h3, _⟩ | ⟨_, h2, _⟩ | ⟨_, h2, _⟩
      · have : (p.length : Int) = v := h3
        omega
      · have h2' : p = [] := h2
        rw [h2']; exact Nat.zero_le _
      · have h2' : p = [] := h2
        rw [h2']; exact Nat.zero_le _
    have HGD := Lib.hid (And.intro hgd hpl)
    clear hgd hpl
    go_wp2_with fail
    refine (good11_any L v a p ws A4 A6 A7 c4 c6 c7 w6 HGD.out.1 HC4.out HC6.out HC7.out (fun r hr => (HF.out.2 r hr).1) HFIT.out.1 HFIT.out.2 HGD.out.2).mono ?_
    rintro e w7 ⟨rfl, hb7⟩
    have HB7 := Lib.hid (HB6.out.trans (hb7.mono HB6.out.size))
    clear hb7
    go_wp2
    go_ret
    exact ⟨rfl, HB7.out⟩
end Go.Proofs.YtbpjnkeilhfajaaGreat.Rw
