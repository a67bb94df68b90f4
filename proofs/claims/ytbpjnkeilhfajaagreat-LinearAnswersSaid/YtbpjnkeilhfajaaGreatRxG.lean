/- ashlarref11.Good, ashlarlaw11.good, walked: what may be an answer is good. -/
import Derived.Test.YtbpjnkeilhfajaaGreatRxY
import Derived.Test.YtbpjnkeilhfajaaGreatRxM
namespace Go.Proofs.YtbpjnkeilhfajaaGreat.Rw
open Go.RowKit Go.Proofs.YtbpjnkeilhfajaaGreat.Given Go.Proofs.YtbpjnkeilhfajaaGreatW.PrintWords Go.Proofs.YtbpjnkeilhfajaaGreatW.PrintLast Go.Proofs.YtbpjnkeilhfajaaGreat.Num Go.Proofs.YtbpjnkeilhfajaaGreat.Ln Go.Proofs.YtbpjnkeilhfajaaGreat.Lin
set_option linter.unusedVariables false
set_option linter.unusedSimpArgs false

set_option maxHeartbeats 8000000 in
theorem Good11_any (l : List S40) (v a : Int) (p : List Rat) (ws : List Int) (A A1 A2 : Option Addr) (c c1 c2 : Nat) (w : World) (hg : GoodZ (l.map toZ) v (a, p, ws)) (hC : Kd.C k40 w A l.length l) (hP : Kd.C k28 w A1 p.length (p.map ofQ)) (hW : (Kd.int .i64).C w A2 ws.length ws) (hin : ∀ r, r ∈ l → RowIn r) (hfit : ∀ x, x ∈ p → Fit x) (hws : ∀ x, x ∈ ws → In64 x) :
    Calls Tryz.prog 59 #[.slice A l.length c, .int .i64 v, .int .i64 a, .slice A1 p.length c1, .slice A2 ws.length c2] w fun e w' => e = .returned (.bool true) ∧ Below w.heap.size w w' := by
  rcases hg with ⟨h1, h2, h3, h4⟩ | ⟨h1, h2, h3⟩ | ⟨h1, h2, h3⟩
  · have h1' : a = 1 := h1
    have h2' : ws = [] := h2
    have h3' : (p.length : Int) = v := h3
    have h4' : checkPoint (l.map toZ) p = true := h4
    subst h1' h2' h3'
    have HP := Lib.hid (point11_any l (p.map ofQ) A A1 c c1 w hC (by rw [List.length_map]; exact hP) hin (fun x hx => by
      obtain ⟨y, hy, rfl⟩ := List.mem_map.1 hx
      exact fit64 (hfit y hy)))
    rw [chkP_of hfit, List.length_map, h4'] at HP
    clear h1 h2 h3 h4 h4' hC hP hW hin hfit hws
    have eb : ((p.length : Int) == (p.length : Int)) = true := by simp
    go_enter Tryz.func59, Tryz.ntmps59
    go_wp2_with fail
    refine HP.out.mono ?_
    rintro e w1 ⟨rfl, hb⟩
    have HB := Lib.hid hb
    clear hb
    go_wp2
    go_ret
    exact ⟨rfl, HB.out⟩
  · have h1' : a = 2 := h1
    have h2' : p = [] := h2
    have h3' : checkFarkas (l.map toZ) ws = true := h3
    subst h1' h2'
    have HP := Lib.hid (farkas11_any l ws A A2 c c2 w hC hW hin hws)
    rw [h3'] at HP
    clear h1 h2 h3 h3' hC hP hW hin hfit hws
    go_enter Tryz.func59, Tryz.ntmps59
    go_wp2_with fail
    refine HP.out.mono ?_
    rintro e w1 ⟨rfl, hb⟩
    have HB := Lib.hid hb
    clear hb
    go_wp2
    go_ret
    exact ⟨rfl, HB.out⟩
  · have h1' : a = 0 := h1
    have h2' : p = [] := h2
    have h3' : ws = [] := h3
    subst h1' h2' h3'
    clear h1 h2 h3 hC hP hW hin hfit hws
    go_enter Tryz.func59, Tryz.ntmps59
    go_wp2
    go_ret
    exact ⟨rfl, Below.refl _ _⟩

set_option maxHeartbeats 8000000 in
theorem good11_any (l : List S40) (v a : Int) (p : List Rat) (ws : List Int) (A A1 A2 : Option Addr) (c c1 c2 : Nat) (w : World) (hg : GoodZ (l.map toZ) v (a, p, ws)) (hC : Kd.C k40 w A l.length l) (hP : Kd.C k28 w A1 p.length (p.map ofQ)) (hW : (Kd.int .i64).C w A2 ws.length ws) (hin : ∀ r, r ∈ l → RowIn r) (hfit : ∀ x, x ∈ p → Fit x) (hws : ∀ x, x ∈ ws → In64 x) (hn : p.length ≤ 100000) :
    Calls Tryz.prog 22 #[.slice A l.length c, .int .i64 v, .int .i64 a, .slice A1 p.length c1, .slice A2 ws.length c2] w fun e w' => e = .returned (.bool true) ∧ Below w.heap.size w w' := by
  have HC := Lib.hid hC
  have HP := Lib.hid (show Kd.C k28 w A1 (p.map ofQ).length (p.map ofQ) by rw [List.length_map]; exact hP)
  have HW := Lib.hid hW
  have HA := Lib.hid (And.intro hg (And.intro hin (And.intro hfit hws)))
  have HN := Lib.hid (show (p.map ofQ).length ≤ 100000 by rw [List.length_map]; exact hn)
  clear hg hC hP hW hin hfit hws hn
  go_enter Tryz.func22, Tryz.ntmps22
  go_wp2_with fail
  have ho := of11_any (p.map ofQ) A1 c1 w HP.out HN.out
  rw [List.length_map] at ho
  refine ho.mono ?_
  clear ho
  rintro e w2 ⟨vp, rfl, hO, hb2⟩
  obtain ⟨A3, c3, rfl, hc3, hC3⟩ := hO.read
  rw [List.length_map] at hc3 hC3 ⊢
  have HC3 := Lib.hid hC3
  have HB := Lib.hid hb2
  clear hO hc3 hC3 hb2
  go_wp2_with fail
  refine (Good11_any l v a p ws A A3 A2 c c3 c2 w2 HA.out.1 (Kd.C_below HC.out HB.out) HC3.out (Kd.C_below HW.out HB.out) HA.out.2.1 HA.out.2.2.1 HA.out.2.2.2).mono ?_
  rintro e w3 ⟨rfl, hb3⟩
  have HB3 := Lib.hid (HB.out.trans (hb3.mono HB.out.size))
  clear hb3
  go_wp2
  go_ret
  exact ⟨rfl, HB3.out⟩
end Go.Proofs.YtbpjnkeilhfajaaGreat.Rw
