/- ashlarref01.Make: its walk, along the numbers of its rows. -/
import Derived.Test.YtoodfkbciodapaaRefBig
namespace Go.Proofs.Ytoodfkbciodapaa.Big
set_option linter.unusedVariables false
set_option linter.unusedSimpArgs false
open Go.RowKit Go.Proofs.YtoodfkbciodapaaW.PrintWords Go.Proofs.Ytoodfkbciodapaa.Given Go.Proofs.Ytoodfkbciodapaa.Dig Go.Proofs.Ytoodfkbciodapaa.DigNumReckons Go.Proofs.Ytoodfkbciodapaa.Num

theorem Row.zero {w : World} {A : Option Addr} {n c m : Nat} (h : Row w A n c m) : ((n : Int) = 0) = (m = 0) := by
  rw [h.1]; exact propext dg_len0
theorem gcd_len {p q : Nat} (hq : q ≠ 0) (lq : (dg q).length ≤ 1000) : (dg (Nat.gcd p q)).length ≤ 1000 := len_le (Nat.le_of_dvd (by omega) (Nat.gcd_dvd_right _ _)) lq
theorem low_P (p q : Int) : (if ((dn p != dn q) && decide (p.natAbs / Nat.gcd p.natAbs q.natAbs ≠ 0)) = true then -((p.natAbs / Nat.gcd p.natAbs q.natAbs : Nat) : Int) else ((p.natAbs / Nat.gcd p.natAbs q.natAbs : Nat) : Int)) = lowP p q := by
  have e1 : sz p / (Int.gcd p q : Int) = ((p.natAbs / Nat.gcd p.natAbs q.natAbs : Nat) : Int) := by rw [sz_abs, Int.natCast_ediv]; rfl
  unfold lowP
  rw [e1]
  show (if ((decide (p < 0) != decide (q < 0)) && decide (p.natAbs / Nat.gcd p.natAbs q.natAbs ≠ 0)) = true then _ else _) = if (decide (p < 0) != decide (q < 0)) = true then _ else _
  cases hs : (decide (p < 0) != decide (q < 0))
  · simp
  · by_cases hz : p.natAbs / Nat.gcd p.natAbs q.natAbs = 0
    · rw [hz]; simp
    · rw [decide_eq_true hz]; rfl
theorem low_Q (p q : Int) : (if false = true then -((q.natAbs / Nat.gcd p.natAbs q.natAbs : Nat) : Int) else ((q.natAbs / Nat.gcd p.natAbs q.natAbs : Nat) : Int)) = lowQ p q := by
  unfold lowQ
  rw [sz_abs, if_neg (by decide), Int.natCast_ediv]; rfl

theorem mk_fit {p q x y u v : Int} {b o1 o2 : Bool} (h0 : ¬ q = 0) (hM : mk p q = (x, y, b)) (h1 : fitp (lowP p q) = (u, o1)) (h2 : fitp (lowQ p q) = (v, o2)) : x = (if o1 && o2 then u else 0) ∧ y = (if o1 && o2 then v else 0) ∧ b = (o1 && o2) := by
  unfold mk In64 at hM
  unfold fitp at h1 h2
  rw [if_neg h0] at hM
  generalize lowP p q = P at *
  generalize lowQ p q = Q at *
  by_cases c1 : -9223372036854775808 ≤ P ∧ P < 9223372036854775808
  · rw [if_pos c1] at h1
    obtain ⟨rfl, rfl⟩ := Prod.mk.inj h1
    by_cases c2 : -9223372036854775808 ≤ Q ∧ Q < 9223372036854775808
    · rw [if_pos c2] at h2
      obtain ⟨rfl, rfl⟩ := Prod.mk.inj h2
      rw [if_pos ⟨c1, c2⟩] at hM
      obtain ⟨rfl, h3⟩ := Prod.mk.inj hM
      obtain ⟨rfl, rfl⟩ := Prod.mk.inj h3
      exact ⟨rfl, rfl, rfl⟩
    · rw [if_neg c2] at h2
      obtain ⟨rfl, rfl⟩ := Prod.mk.inj h2
      rw [if_neg (fun h => c2 h.2)] at hM
      obtain ⟨rfl, h3⟩ := Prod.mk.inj hM
      obtain ⟨rfl, rfl⟩ := Prod.mk.inj h3
      exact ⟨rfl, rfl, rfl⟩
  · rw [if_neg c1] at h1
    obtain ⟨rfl, rfl⟩ := Prod.mk.inj h1
    rw [if_neg (fun h => c1 h.1)] at hM
    obtain ⟨rfl, h3⟩ := Prod.mk.inj hM
    obtain ⟨rfl, rfl⟩ := Prod.mk.inj h3
    exact ⟨by cases o2 <;> rfl, by cases o2 <;> rfl, by cases o2 <;> rfl⟩

set_option maxHeartbeats 8000000 in
set_option maxRecDepth 100000 in
theorem Make_big {p q x y : Int} {b : Bool} {A B : Option Addr} {n m c d : Nat} (w : World) (hp : Row w A n c p.natAbs) (hq : Row w B m d q.natAbs) (lp : (dg p.natAbs).length ≤ 1000) (lq : (dg q.natAbs).length ≤ 1000) (hM : mk p q = (x, y, b)) :
    Calls Try.prog 39 #[.agg #[.bool (dn p), .slice A n c], .agg #[.bool (dn q), .slice B m d]] w fun e w' => e = .returned (.tuple #[.int .i64 x, .int .i64 y, .bool b]) ∧ Below w.heap.size w w' := by
  by_cases h0 : q = 0
  · subst h0
    have hm : m = 0 := by have := hq.1; simpa [dg_zero] using this
    unfold mk at hM
    rw [if_pos rfl] at hM
    obtain ⟨rfl, h1⟩ := Prod.mk.inj hM
    obtain ⟨rfl, rfl⟩ := Prod.mk.inj h1
    subst hm
    clear hM h1
    go_enter Try.func39, Try.ntmps39
    go_wp2
    go_ret3
    exact ⟨rfl, (by repeat (first | exact Below.refl _ _ | with_reducible assumption | refine Below.alloc ?_ (by first | exact Nat.le_refl _ | (simp; done) | (simp; omega) | omega) _ | refine Below.setCell ?_ (by first | exact Nat.le_refl _ | (simp; done) | (simp; omega) | omega) _ | refine Below.drew ?_ | refine bdrewN ?_ _))⟩
  · have hm : ((m : Int) = 0) = False := by rw [hq.zero]; exact eq_false (by omega)
    have hmb : ((m : Int) == 0) = false := by have h1 : ¬ ((m : Int) = 0) := by rw [hm]; exact id
                                              simpa using h1
    have q0 : q.natAbs ≠ 0 := by omega
    have hg : Nat.gcd p.natAbs q.natAbs ≠ 0 := by
      intro h; exact q0 (Nat.eq_zero_of_gcd_eq_zero_right h)
    have lg : (dg (Nat.gcd p.natAbs q.natAbs)).length ≤ 1000 := gcd_len q0 lq
    have lx : (dg (p.natAbs / Nat.gcd p.natAbs q.natAbs)).length ≤ 1000 := len_le (Nat.div_le_self _ _) lp
    have ly : (dg (q.natAbs / Nat.gcd p.natAbs q.natAbs)).length ≤ 1000 := len_le (Nat.div_le_self _ _) lq
    obtain ⟨u, o1, f1⟩ : ∃ u o, fitp (lowP p q) = (u, o) := ⟨_, _, rfl⟩
    obtain ⟨v, o2, f2⟩ : ∃ u o, fitp (lowQ p q) = (u, o) := ⟨_, _, rfl⟩
    have EM := Lib.hid (mk_fit h0 hM f1 f2)
    have F1 := Lib.hid f1
    have F2 := Lib.hid f2
    clear f1 f2
    obtain ⟨sb, hsb⟩ : ∃ s, ((dn p != dn q) && decide (p.natAbs / Nat.gcd p.natAbs q.natAbs ≠ 0)) = s := ⟨_, rfl⟩
    have GP := low_P p q
    rw [hsb] at GP
    have GP := Lib.hid GP
    have SB := Lib.hid hsb
    clear hsb
    have GQ := Lib.hid (low_Q p q)
    have HG := Lib.hid hg
    generalize hgg : Nat.gcd p.natAbs q.natAbs = g at *
    have GG := Lib.hid hgg
    clear hM hg hgg
    have HP := Lib.hid hp
    have HQ := Lib.hid hq
    clear hp hq
    have hA := below_alloc (Below.refl w.heap.size w) (.cells #[.bool (dn p), .slice A n c] 59)
    have hB := below_alloc hA (.cells #[.bool (dn q), .slice B m d] 59)
    have hP1 := HP.out.below hB
    have hQ1 := HQ.out.below hB
    go_enter Try.func39, Try.ntmps39
    go_wp2_with fail
    refine (Gcd_big _ hP1 hQ1 lp lq).mono ?_
    rintro e w1 ⟨A1, n1, c1, rfl, h1, b1⟩
    rw [GG.out] at h1
    have p0 : w1.cell? ⟨w.heap.size, 0, none⟩ = some (.bool (dn p)) := keepcell b1 (by simp [go_sem]; done)
    have p1 : w1.cell? ⟨w.heap.size, 1, none⟩ = some (.slice A n c) := keepcell b1 (by simp [go_sem]; done)
    have q0 : w1.cell? ⟨w.heap.size + 1, 0, none⟩ = some (.bool (dn q)) := keepcell b1 (by simp [go_sem]; done)
    have q1 : w1.cell? ⟨w.heap.size + 1, 1, none⟩ = some (.slice B m d) := keepcell b1 (by simp [go_sem]; done)
    have z1 : w.heap.size < w1.heap.size := by have := b1.size; simp at this; omega
    have z2 : w.heap.size + 1 < w1.heap.size := by have := b1.size; simp at this; omega
    go_wp2_with fail
    refine (Over_big _ ((hP1.below b1).below (below_alloc (Below.refl _ _) _)) (h1.below (below_alloc (Below.refl _ _) _)) lp HG.out lg).mono ?_
    rintro e w2 ⟨A2, n2, c2, B2, m2, d2, rfl, h2, h2', b2⟩
    have g0 : w2.cell? ⟨w1.heap.size, 0, none⟩ = some (.bool false) := keepcell b2 (by simp [go_sem]; done)
    have g1 : w2.cell? ⟨w1.heap.size, 1, none⟩ = some (.slice A1 n1 c1) := keepcell b2 (by simp [go_sem]; done)
    have p0' := keepcell b2 (keepalloc (o := .cells #[.bool false, .slice A1 n1 c1] 59) p0)
    have q0' := keepcell b2 (keepalloc (o := .cells #[.bool false, .slice A1 n1 c1] 59) q0)
    have q1' := keepcell b2 (keepalloc (o := .cells #[.bool false, .slice A1 n1 c1] 59) q1)
    have z3 : w1.heap.size < w2.heap.size := by have := b2.size; simp at this; omega
    have z4 : w.heap.size < w2.heap.size := by omega
    have z5 : w.heap.size + 1 < w2.heap.size := by omega
    have hG2 : Row w2 A1 n1 c1 g := (h1.below (below_alloc (Below.refl _ _) (.cells #[.bool false, .slice A1 n1 c1] 59))).below b2
    have hQ2 : Row w2 B m d q.natAbs := ((hQ1.below b1).below (below_alloc (Below.refl _ _) (.cells #[.bool false, .slice A1 n1 c1] 59))).below b2
    have k2 := below_alloc (below_alloc (Below.refl w2.heap.size w2) (.cells #[.bool false, .slice A2 n2 c2] 59)) (.cells #[.bool false, .slice B2 m2 d2] 59)
    go_wp2_with fail
    refine (Over_big _ (hQ2.below k2) (hG2.below k2) lq HG.out lg).mono ?_
    rintro e w3 ⟨A3, n3, c3, B3, m3, d3, rfl, h3, h3', b3⟩
    have x0 : w3.cell? ⟨w2.heap.size, 0, none⟩ = some (.bool false) := keepcell b3 (by simp [go_sem]; done)
    have x1 : w3.cell? ⟨w2.heap.size, 1, none⟩ = some (.slice A2 n2 c2) := keepcell b3 (by simp [go_sem]; done)
    have xf : w3.frozen? ⟨w2.heap.size, 0, none⟩ = false := by rw [(bcell b3).2 _ _ (by simp; omega)]; simp [go_sem]
    have p0'' := keepcell b3 (keepalloc (o := .cells #[.bool false, .slice B2 m2 d2] 59) (keepalloc (o := .cells #[.bool false, .slice A2 n2 c2] 59) p0'))
    have q0'' := keepcell b3 (keepalloc (o := .cells #[.bool false, .slice B2 m2 d2] 59) (keepalloc (o := .cells #[.bool false, .slice A2 n2 c2] 59) q0'))
    have z6 : w2.heap.size < w3.heap.size := by have := b3.size; simp at this; omega
    have z7 : w.heap.size < w3.heap.size := by omega
    have z8 : w.heap.size + 1 < w3.heap.size := by omega
    clear p0 p1 q0 q1 g0 g1 p0' q0' q1'
    have k3 : Below w2.heap.size w2 (((w3.setCell ⟨w2.heap.size, 0, none⟩ (.bool !dn p == dn q)).alloc (.cells #[.bool false, .slice A3 n3 c3] 59)).alloc (.cells #[.bool false, .slice B3 m3 d3] 59)) := by
      have a1 := k2.trans (b3.mono k2.size)
      have a2 := a1.setCell (p := ⟨w2.heap.size, 0, none⟩) (Nat.le_refl _) (.bool !dn p == dn q)
      exact (a2.alloc a2.size _).alloc (by simp; omega) _
    have hX3 := h2.row.below k3
    have hY3 := ((h3.set (p := ⟨w2.heap.size, 0, none⟩) (by simp; omega) (.bool !dn p == dn q)).below (below_alloc (Below.refl _ _) (.cells #[.bool false, .slice A3 n3 c3] 59))).below (below_alloc (Below.refl _ _) (.cells #[.bool false, .slice B3 m3 d3] 59))
    go_wp2_with fail
    refine (cut_big (b := sb) _ hX3 lx SB.out).mono ?_
    rintro e w4 ⟨A4, n4, c4, rfl, h4, b4⟩
    have y0 : w4.cell? ⟨w3.heap.size, 0, none⟩ = some (.bool false) := keepcell b4 (by simp [go_sem]; done)
    have y1 : w4.cell? ⟨w3.heap.size, 1, none⟩ = some (.slice A3 n3 c3) := keepcell b4 (by simp [go_sem]; done)
    have z9 : w3.heap.size < w4.heap.size := by have := b4.size; simp at this; omega
    clear x0 x1 xf p0'' q0''
    go_wp2_with fail
    refine (Int_big _ h4 lx GP.out F1.out).mono ?_
    rintro e w5 ⟨rfl, b5⟩
    have y0' := keepcell b5 y0
    have y1' := keepcell b5 y1
    go_wp2_with fail
    refine (Int_big _ ((hY3.below b4).below b5).row ly GQ.out F2.out).mono ?_
    rintro e w6 ⟨rfl, b6⟩
    have BB : Below w.heap.size w w6 := by
      have a1 := hB.trans (b1.mono hB.size)
      have a2 := below_alloc a1 (.cells #[.bool false, .slice A1 n1 c1] 59)
      have a3 := a2.trans (b2.mono a2.size)
      have a4 := a3.trans (k3.mono a3.size)
      have a5 := a4.trans (b4.mono a4.size)
      have a6 := a5.trans (b5.mono a5.size)
      exact a6.trans (b6.mono a6.size)
    have HBB := Lib.hid BB
    clear BB y0 y1 y0' y1' b1 b2 b3 b4 b5 b6 k2 k3 hX3 hY3 h4 h3 h3' h2 h2' h1 hP1 hQ1 hG2 hQ2 hA hB GP GQ F1 F2
    obtain ⟨e1, e2, e3⟩ := EM.out
    cases o1
    · rw [show (if (false && o2) = true then u else 0) = 0 by cases o2 <;> rfl] at e1
      rw [show (if (false && o2) = true then v else 0) = 0 by cases o2 <;> rfl] at e2
      rw [show (false && o2) = false by cases o2 <;> rfl] at e3
      subst e1 e2 e3
      clear EM
      go_wp2
      go_ret3
      exact ⟨rfl, HBB.out⟩
    · cases o2
      · subst e1 e2 e3
        clear EM
        go_wp2
        go_ret3
        exact ⟨rfl, HBB.out⟩
      · subst e1 e2 e3
        clear EM
        go_wp2
        go_ret3
        exact ⟨rfl, HBB.out⟩
end Go.Proofs.Ytoodfkbciodapaa.Big
