/- ashlarref01.Sum. -/
import Derived.Test.YtbpjnkeilhfajaaGreatRxX
import Derived.Test.YtbpjnkeilhfajaaGreatTk
import Derived.Test.YtbpjnkeilhfajaaGreatRfG
namespace Go.Proofs.YtbpjnkeilhfajaaGreat.Big
set_option linter.unusedVariables false
set_option linter.unusedSimpArgs false
open Go.RowKit Go.Proofs.YtbpjnkeilhfajaaGreatW.PrintWords Go.Proofs.YtbpjnkeilhfajaaGreat.Given Go.Proofs.YtbpjnkeilhfajaaGreat.Dig Go.Proofs.YtbpjnkeilhfajaaGreat.DigNumReckons Go.Proofs.YtbpjnkeilhfajaaGreat.Num Go.Proofs.YtbpjnkeilhfajaaGreat.PNumReckons Go.Proofs.YtbpjnkeilhfajaaGreat.Rf

def RowP (w : World) (P : Nat → Prop) (A : Option Addr) (n c : Nat) (m : Nat) : Prop := n = (dg m).length ∧ Kd.V (Kd.int .i64) 3 w 0 P (.slice A n c) (dg m)
theorem RowP.row {w : World} {P : Nat → Prop} {A : Option Addr} {n c m : Nat} (h : RowP w P A n c m) : Row w A n c m := ⟨h.1, Kd.V_mono h.2 fun _ _ => trivial⟩
theorem RowP.below {w w' : World} {P : Nat → Prop} {A : Option Addr} {n c m : Nat} (h : RowP w P A n c m) (hb : Below w.heap.size w w') : RowP w' P A n c m := ⟨h.1, Kd.V_below h.2 hb⟩
theorem RowP.far {w : World} {g i : Nat} {A : Option Addr} {n c m : Nat} (h : RowP w (fun k => k ≠ g) A n c m) (u : Value) : RowP (w.setCell ⟨g, i, none⟩ u) (fun k => k ≠ g) A n c m := ⟨h.1, Kd.V_far h.2 (fun k hk => hk) u⟩
theorem Row.bound {w : World} {A : Option Addr} {n c m : Nat} (h : Row w A n c m) : RowP w (fun k => k < w.heap.size) A n c m := ⟨h.1, Kd.V_mono (Kd.V_bound h.2) fun _ hk => hk.2⟩
theorem Turn_bigP {x : Int} {A : Option Addr} {n c : Nat} (g : Nat) (w : World) (hx : RowP w (fun k => k < g) A n c x.natAbs) (hg : g < w.heap.size) (lx : (dg x.natAbs).length ≤ 1000) :
    Calls Tryz.prog 133 #[.agg #[.bool (dn x), .slice A n c]] w fun e w' => ∃ A' n' c', e = .returned (.agg #[.bool (dn (-x)), .slice A' n' c']) ∧ RowP w' (fun k => k ≠ g) A' n' c' (-x).natAbs ∧ Below w.heap.size w w' := by
  obtain ⟨rfl, hX⟩ := hx
  refine (Turn_any hX (turn_dg lx)).mono ?_
  rintro e w' ⟨v, rfl, hv, hb⟩
  obtain ⟨A', c', rfl, hl, hf⟩ := hv
  exact ⟨A', _, c', rfl, ⟨rfl, A', c', rfl, hl, Kd.F_mono hf fun k hk => by omega⟩, hb⟩

set_option maxHeartbeats 8000000 in
set_option maxRecDepth 100000 in
theorem Sum_no {p q r s x y : Int} {b : Bool} (w : World) (hp : In64 p) (hq : In64 q) (hr : In64 r) (hs : In64 s) (hM : mk (p * s + (r * q)) (q * s) = (x, y, b)) :
    Calls Tryz.prog 122 #[.int .i64 p, .int .i64 q, .int .i64 r, .int .i64 s, .bool false] w fun e w' => e = .returned (.tuple #[.int .i64 x, .int .i64 y, .bool b]) ∧ Below w.heap.size w w' := by
  have HM := Lib.hid hM
  clear hM
  have lb : (dg (r * q).natAbs).length ≤ 1000 := by exact len2 hr hq
  have lab : (dg (p * s + (r * q)).natAbs).length ≤ 1000 := len3 hp hs hr hq
  go_enter Tryz.func122, Tryz.ntmps122
  go_wp2_with fail
  refine (Of_big hr _).mono ?_
  rintro e w1 ⟨A1, n1, c1, rfl, h1, b1⟩
  go_wp2_with fail
  refine (Of_big hq _).mono ?_
  rintro e w2 ⟨A2, n2, c2, rfl, h2, b2⟩
  go_wp2_with fail
  refine (Times_big _ (h1.below b2) h2 (len1 hr) (len1 hq)).mono ?_
  rintro e w3 ⟨A0, n0, c0, rfl, h3, b3⟩
  have B3 := Lib.hid ((b1.trans (b2.mono b1.size)).trans (b3.mono (b1.trans (b2.mono b1.size)).size))
  have HB := Lib.hid (below_drew1 (below_alloc B3.out (.cells #[.bool (dn (r * q)), .slice A0 n0 c0] 91)))
  have hR := (h3.below (below_alloc (Below.refl _ _) (.cells #[.bool (dn (r * q)), .slice A0 n0 c0] 91))).below (below_drew1 (Below.refl _ _))
  have S0 : (w3.alloc (.cells #[.bool (dn (r * q)), .slice A0 n0 c0] 91)).cell? ⟨w3.heap.size, 0, none⟩ = some (.bool (dn (r * q))) ∧ (w3.alloc (.cells #[.bool (dn (r * q)), .slice A0 n0 c0] 91)).cell? ⟨w3.heap.size, 1, none⟩ = some (.slice A0 n0 c0) := by simp [go_sem]
  clear h1 h2 h3 b1 b2 b3
  go_wp2_with fail
  refine wp_region_held_drew (S := (fun w' => w'.cell? ⟨w3.heap.size, 0, none⟩ = some (.bool (dn (r * q))) ∧ w'.cell? ⟨w3.heap.size, 1, none⟩ = some (.slice A0 n0 c0))) (by kernel_rfl) ?_ (fun hHeld => ?_)
  · first | exact S0 | exact S1 | exact S2 | exact S3 | exact S4 | exact S5 | exact S6 | exact S7
  iterate 5 ((first | refine tk0 ?_ (by decide +kernel) (by rfl) (fun _ _ _ => id) ?_ (by assumption) ?_ | refine tk2 ?_ (by decide +kernel) (by rfl) (fun _ _ _ => id) ?_ (by assumption) ?_ | refine tk5 ?_ (by decide +kernel) (by rfl) (fun _ _ _ => id) ?_ (by assumption) ?_ | refine tk7 ?_ (by decide +kernel) (by rfl) (fun _ _ _ => id) ?_ (by assumption) ?_ | refine tk9 ?_ (by decide +kernel) (by rfl) (fun _ _ _ => id) ?_ (by assumption) ?_); (rotate_left 1); (focus (intro w_ hSw; (try dsimp only at hSw); go_simp; all_goals (with_reducible rfl); done)); focus try simp only [Act.put, List.setIfInBounds_toArray, List.set_cons_zero, List.set_cons_succ])
  refine wpAnyH_ready (rs := [1]) (by kernel_rfl) (by simp) (ac1 (fun K hK => ?_) (AllReadyH.nil))
  focus go_simp
  focus (refine (Of_big hp _).mono ?_; rintro e v1 ⟨A1, n1, c1, rfl, h1, b1⟩; have S1 := And.intro (keepcell b1 hHeld.1) (keepcell b1 hHeld.2); have R1 := hR.below b1)
  focus try simp only []
  refine hK.out _ _ ?_ (fun hHeld => ?_)
  · first | exact S0 | exact S1 | exact S2 | exact S3 | exact S4 | exact S5 | exact S6 | exact S7
  focus clear hK K; try simp only [Act.put, List.setIfInBounds_toArray, List.set_cons_zero, List.set_cons_succ]
  refine wpAnyH_ready (rs := [3]) (by kernel_rfl) (by simp) (ac3 (fun K hK => ?_) (AllReadyH.nil))
  focus go_simp
  focus (refine (Of_big hs _).mono ?_; rintro e v2 ⟨A2, n2, c2, rfl, h2, b2⟩; have S2 := And.intro (keepcell b2 hHeld.1) (keepcell b2 hHeld.2))
  focus try simp only []
  refine hK.out _ _ ?_ (fun hHeld => ?_)
  · first | exact S0 | exact S1 | exact S2 | exact S3 | exact S4 | exact S5 | exact S6 | exact S7
  focus clear hK K; try simp only [Act.put, List.setIfInBounds_toArray, List.set_cons_zero, List.set_cons_succ]
  refine wpAnyH_ready (rs := [4]) (by kernel_rfl) (by simp) (ac4 (fun K hK => ?_) (AllReadyH.nil))
  focus go_simp
  focus (refine (Times_big _ (h1.below b2) h2 (len1 hp) (len1 hs)).mono ?_; rintro e v3 ⟨A3, n3, c3, rfl, h3, b3⟩; have S3 := And.intro (keepcell b3 hHeld.1) (keepcell b3 hHeld.2))
  focus try simp only []
  refine hK.out _ _ ?_ (fun hHeld => ?_)
  · first | exact S0 | exact S1 | exact S2 | exact S3 | exact S4 | exact S5 | exact S6 | exact S7
  focus clear hK K; try simp only [Act.put, List.setIfInBounds_toArray, List.set_cons_zero, List.set_cons_succ]
  refine wpAnyH_ready (rs := [6]) (by kernel_rfl) (by simp) (ac6 (fun K hK => ?_) (AllReadyH.nil))
  focus go_simp
  focus (refine (Plus_big _ h3 ((R1.below b2).below b3) (len2 hp hs) lb).mono ?_; rintro e v4 ⟨A4, n4, c4, rfl, h4, b4⟩; have S4 := And.intro (keepcell b4 hHeld.1) (keepcell b4 hHeld.2))
  focus try simp only []
  refine hK.out _ _ ?_ (fun hHeld => ?_)
  · first | exact S0 | exact S1 | exact S2 | exact S3 | exact S4 | exact S5 | exact S6 | exact S7
  focus clear hK K; try simp only [Act.put, List.setIfInBounds_toArray, List.set_cons_zero, List.set_cons_succ]
  refine wpAnyH_ready (rs := [8]) (by kernel_rfl) (by simp) (ac8 (fun K hK => ?_) (AllReadyH.nil))
  focus go_simp
  focus (refine (Of_big hq _).mono ?_; rintro e v5 ⟨A5, n5, c5, rfl, h5, b5⟩; have S5 := And.intro (keepcell b5 hHeld.1) (keepcell b5 hHeld.2))
  focus try simp only []
  refine hK.out _ _ ?_ (fun hHeld => ?_)
  · first | exact S0 | exact S1 | exact S2 | exact S3 | exact S4 | exact S5 | exact S6 | exact S7
  focus clear hK K; try simp only [Act.put, List.setIfInBounds_toArray, List.set_cons_zero, List.set_cons_succ]
  refine wpAnyH_ready (rs := [10]) (by kernel_rfl) (by simp) (ac10 (fun K hK => ?_) (AllReadyH.nil))
  focus go_simp
  focus (refine (Of_big hs _).mono ?_; rintro e v6 ⟨A6, n6, c6, rfl, h6, b6⟩; have S6 := And.intro (keepcell b6 hHeld.1) (keepcell b6 hHeld.2))
  focus try simp only []
  refine hK.out _ _ ?_ (fun hHeld => ?_)
  · first | exact S0 | exact S1 | exact S2 | exact S3 | exact S4 | exact S5 | exact S6 | exact S7
  focus clear hK K; try simp only [Act.put, List.setIfInBounds_toArray, List.set_cons_zero, List.set_cons_succ]
  refine wpAnyH_ready (rs := [11]) (by kernel_rfl) (by simp) (ac11 (fun K hK => ?_) (AllReadyH.nil))
  focus go_simp
  focus (refine (Times_big _ (h5.below b6) h6 (len1 hq) (len1 hs)).mono ?_; rintro e v7 ⟨A7, n7, c7, rfl, h7, b7⟩; have S7 := And.intro (keepcell b7 hHeld.1) (keepcell b7 hHeld.2))
  focus try simp only []
  refine hK.out _ _ ?_ (fun hHeld => ?_)
  · first | exact S0 | exact S1 | exact S2 | exact S3 | exact S4 | exact S5 | exact S6 | exact S7
  focus clear hK K; try simp only [Act.put, List.setIfInBounds_toArray, List.set_cons_zero, List.set_cons_succ]
  refine wpAnyH_ready (rs := [12]) (by kernel_rfl) (by simp) (ac12 (fun K hK => ?_) (AllReadyH.nil))
  focus go_simp
  focus (refine (Make_big _ (((h4.below b5).below b6).below b7) h7 lab (len2 hq hs) HM.out).mono ?_; rintro e v8 ⟨rfl, b8⟩; have S8 := And.intro (keepcell b8 hHeld.1) (keepcell b8 hHeld.2); have HB8 : Below w.heap.size w v8 := (by have a1 := HB.out.trans (b1.mono HB.out.size); have a2 := a1.trans (b2.mono a1.size); have a3 := a2.trans (b3.mono a2.size); have a4 := a3.trans (b4.mono a3.size); have a5 := a4.trans (b5.mono a4.size); have a6 := a5.trans (b6.mono a5.size); have a7 := a6.trans (b7.mono a6.size); exact a7.trans (b8.mono a7.size)))
  focus try simp only []
  refine hK.out _ _ ?_ (fun hHeld => ?_)
  · exact S8
  focus clear hK K; try simp only [Act.put, List.setIfInBounds_toArray, List.set_cons_zero, List.set_cons_succ]
  iterate 6 ((first | refine tk13 ?_ (by decide +kernel) (by rfl) (fun _ _ _ => id) ?_ (by assumption) ?_ | refine tk14 ?_ (by decide +kernel) (by rfl) (fun _ _ _ => id) ?_ (by assumption) ?_ | refine tk15 ?_ (by decide +kernel) (by rfl) (fun _ _ _ => id) ?_ (by assumption) ?_ | refine tk16 ?_ (by decide +kernel) (by rfl) (fun _ _ _ => id) ?_ (by assumption) ?_ | refine tk17 ?_ (by decide +kernel) (by rfl) (fun _ _ _ => id) ?_ (by assumption) ?_ | refine tk18 ?_ (by decide +kernel) (by rfl) (fun _ _ _ => id) ?_ (by assumption) ?_); (rotate_left 1); (focus (intro w_ hSw; (try dsimp only at hSw); go_simp; all_goals (with_reducible rfl); done)); focus try simp only [Act.put, List.setIfInBounds_toArray, List.set_cons_zero, List.set_cons_succ])
  refine wpAnyH_done (by kernel_rfl) ?_ _; rotate_left 1
  all_goals
    go_wp2
    exact bodyPost_ret (v := .tuple #[.int .i64 x, .int .i64 y, .bool b]) (by simp [results, Tryz.results122, go_sem]) rfl ⟨rfl, HB8⟩

end Go.Proofs.YtbpjnkeilhfajaaGreat.Big
