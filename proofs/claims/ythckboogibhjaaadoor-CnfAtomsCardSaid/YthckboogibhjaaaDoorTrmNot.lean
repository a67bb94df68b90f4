/- ashlarlaw07.CnfNot: its plain law, and its walk. -/
import Derived.Test.YthckboogibhjaaaDoorTk
import Derived.Test.YthckboogibhjaaaDoorTrmZ
import Derived.Deep.RegionHeldLaw
namespace Go.Proofs.YthckboogibhjaaaDoor.Trm
set_option linter.unusedVariables false
set_option linter.unusedSimpArgs false
open Go.RowKit Go.Proofs.YthckboogibhjaaaDoorW Go.Proofs.YthckboogibhjaaaDoorW.PrintWords Go.Proofs.YthckboogibhjaaaDoorW.PrintMore

/-- same tells it of the same rows. -/
theorem same_l1 (a : List (List Int)) (ha : a.length ≤ 1000000) (hr : ∀ x, x ∈ a → x.length ≤ 1000000) : ∀ (d i : Nat), i + d = a.length →
    (∃ k, ∀ k', k ≤ k' → ashlarlaw07_same.l0 k' a a (i : Int) = some true) ∧ ∀ (hi : i < a.length) (c j : Nat), j + c = (a[i]).length → ∃ k, ∀ k', k ≤ k' → ashlarlaw07_same.l1 k' a a (i : Int) (j : Int) = some true := by
  intro d
  induction d with
  | zero =>
    intro i hi
    refine ⟨⟨1, fun k' hk => ?_⟩, fun h => absurd h (by omega)⟩
    obtain ⟨k, rfl⟩ : ∃ m, k' = m + 1 := ⟨k' - 1, by omega⟩
    rw [ashlarlaw07_same.l0, if_neg (by omega)]
  | succ d ih =>
    intro i hi
    have hil : i < a.length := by omega
    have hn := (ih (i + 1) (by omega)).1
    have erd : rd_L1 a (i : Int) = a[i] := by simp [rd_L1, List.getElem?_eq_getElem hil]
    have hrow := hr a[i] (List.getElem_mem hil)
    have hi0 : (0 : Int) ≤ (i : Int) := Int.natCast_nonneg i
    have hi1 : (i : Int) < (a.length : Int) := by omega
    have ew : wrap64 ((i : Int) + 1) = ((i + 1 : Nat) : Int) := wrapj (by omega)
    have hl1 : ∀ (c j : Nat), j + c = (a[i]).length → ∃ k, ∀ k', k ≤ k' → ashlarlaw07_same.l1 k' a a (i : Int) (j : Int) = some true := by
      intro c
      induction c with
      | zero =>
        intro j hj
        obtain ⟨k0, h0⟩ := hn
        refine ⟨k0 + 1, fun k' hk => ?_⟩
        obtain ⟨k, rfl⟩ : ∃ m, k' = m + 1 := ⟨k' - 1, by omega⟩
        have hn1 : ¬ ((j : Int) < ((a[i]).length : Int)) := by omega
        rw [ashlarlaw07_same.l1, if_pos hi0, if_pos hi1, erd, if_neg hn1, ew]
        exact h0 k (by omega)
      | succ c ihc =>
        intro j hj
        obtain ⟨k0, h0⟩ := ihc (j + 1) (by omega)
        refine ⟨k0 + 1, fun k' hk => ?_⟩
        obtain ⟨k, rfl⟩ : ∃ m, k' = m + 1 := ⟨k' - 1, by omega⟩
        have hp1 : (j : Int) < ((a[i]).length : Int) := by omega
        have hp0 : (0 : Int) ≤ (j : Int) := Int.natCast_nonneg j
        have ej : wrap64 ((j : Int) + 1) = ((j + 1 : Nat) : Int) := wrapj (by omega)
        rw [ashlarlaw07_same.l1, if_pos hi0, if_pos hi1, erd, if_pos hp1, if_pos hp0, if_pos hi1, if_pos hp1, if_pos rfl, ej]
        exact h0 k (by omega)
    refine ⟨?_, fun _ => hl1⟩
    obtain ⟨k0, h0⟩ := hl1 (a[i]).length 0 (by omega)
    refine ⟨k0 + 1, fun k' hk => ?_⟩
    obtain ⟨k, rfl⟩ : ∃ m, k' = m + 1 := ⟨k' - 1, by omega⟩
    rw [ashlarlaw07_same.l0, if_pos hi1, if_pos hi0, if_pos hi1, erd, if_pos rfl]
    exact h0 k (by omega)
theorem same_refl (a : List (List Int)) (ha : a.length ≤ 1000000) (hr : ∀ x, x ∈ a → x.length ≤ 1000000) : ∃ k, ashlarlaw07_same.f k a a = some true := by
  obtain ⟨⟨k, h⟩, -⟩ := same_l1 a ha hr a.length 0 (by omega)
  refine ⟨k, ?_⟩
  unfold ashlarlaw07_same.f
  rw [if_pos rfl]
  exact h k (Nat.le_refl _)

/-- Each clause has no more numbers than the term has parts. -/
theorem addC_row {op h : Int} {l : List Int} {c : List (List Int)} {B : Nat} (hc : ∀ x, x ∈ c → x.length ≤ B) (hB : l.length + 2 ≤ B) : ∀ x, x ∈ addC op h l c → x.length ≤ B := by
  have key : ∀ (l : List Int), l.length + 2 ≤ B → ∀ x, x ∈ orC h l c → x.length ≤ B := by
    intro l hl x hx
    unfold orC at hx
    rcases List.mem_append.1 hx with hx | hx
    · rcases List.mem_append.1 hx with hx | hx
      · exact hc x hx
      · obtain ⟨y, -, rfl⟩ := List.mem_map.1 hx
        simp; omega
    · rw [List.mem_singleton.1 hx]; simp; omega
  intro x hx
  unfold addC at hx
  split at hx
  · rcases List.mem_append.1 hx with hx | hx
    · exact hc x hx
    · rw [List.mem_singleton.1 hx]; simp; omega
  · split at hx
    · rcases List.mem_append.1 hx with hx | hx
      · exact hc x hx
      · rw [List.mem_singleton.1 hx]; simp; omega
    · split at hx
      · unfold andC at hx
        rcases List.mem_append.1 hx with hx | hx
        · rcases List.mem_append.1 hx with hx | hx
          · exact hc x hx
          · obtain ⟨y, -, rfl⟩ := List.mem_map.1 hx
            simp; omega
        · rw [List.mem_singleton.1 hx]; simp; omega
      · split at hx
        · exact key _ (by rw [List.length_set]; exact hB) x hx
        · exact key l hB x hx
mutual
theorem litT_row (ats : List S24) (B : Nat) : ∀ (t : S24) (v : Int) (c : List (List Int)), (ats.length : Int) ≤ v → tsize t + 2 ≤ B → (∀ x, x ∈ c → x.length ≤ B) → ∀ x, x ∈ (litT ats t v c).2.2 → x.length ≤ B
  | ⟨op, nm, n, l⟩, v, c, hv, hs, hc => by
    rw [tsize] at hs
    have ih := litL_row ats B l v c hv (by omega) hc
    have hle := litL_le ats l v c hv
    have hl := len_lsize l
    rw [litT]
    split
    · split
      · exact ih
      · exact addC_row ih (by omega)
    · exact hc
theorem litL_row (ats : List S24) (B : Nat) : ∀ (l : List S24) (v : Int) (c : List (List Int)), (ats.length : Int) ≤ v → lsize l + 2 ≤ B → (∀ x, x ∈ c → x.length ≤ B) → ∀ x, x ∈ (litL ats l v c).2.2 → x.length ≤ B
  | [], v, c, hv, hs, hc => by rw [litL]; exact hc
  | x :: l, v, c, hv, hs, hc => by
    rw [lsize] at hs
    rw [litL]
    have h1 := litT_le ats x v c hv
    exact litL_row ats B l _ _ (by omega) (by omega) (litT_row ats B x v c hv (by omega) hc)
end

/-- Not of a term. -/
def notT (t : S24) : S24 := ⟨18, ⟨#[]⟩, 0, [t]⟩
theorem eachT_joined {t : S24} (h : joinsB t.f0 = true) (s : List S24) : eachT atomF t s = eachL atomF t.f3 s := by
  rw [eachT_mk, if_pos h]
  unfold atomF
  rw [if_pos h]
theorem atoms_not (t : S24) : atomsT (notT t) = atomsT t := by
  unfold atomsT
  rw [eachT_joined (t := notT t) rfl]
  show eachL atomF [t] [] = _
  rw [eachL, eachL]
theorem lit_not (ats : List S24) (t : S24) (v : Int) (c : List (List Int)) : litT ats (notT t) v c = (-((litT ats t v c).1), (litT ats t v c).2.1, (litT ats t v c).2.2) := by
  rw [litT_mk, if_pos (show joinsB (notT t).f0 = true from rfl), if_pos (show (notT t).f0 = 18 from rfl)]
  show (-((litL ats [t] v c).1.headD 0), (litL ats [t] v c).2.1, (litL ats [t] v c).2.2) = _
  rw [litL, litL]
  rfl
theorem right_want {t : S24} {want : Int} (hw : want ≠ 0) : rightT t want = (rightT t 0 && decide ((shp t.f0.toNat).sort = want)) := by
  rw [rightT_mk, rightT_mk]
  by_cases hop : t.f0 < 1 ∨ 28 < t.f0
  · rw [if_pos hop, if_pos hop]; rfl
  · rw [if_neg hop, if_neg hop]
    unfold okHead
    by_cases hs : (shp t.f0.toNat).sort = want
    · simp [hs, hw]
    · simp [hs, hw]
/-- Sort of Not. -/
theorem sort_not (t : S24) : (sortT (notT t)).2 = 0 → (sortT t).2 = 0 ∧ (sortT t).1 = 4 ∧ (sortT (notT t)).1 = 4 := by
  intro h
  obtain ⟨h1, h2, h3⟩ := sort_small h
  have e1 : tsize (notT t) = 1 + tsize t := by show tsize ⟨18, ⟨#[]⟩, 0, [t]⟩ = _; rw [tsize, lsize, lsize]; rfl
  have e2 : tdeep (notT t) = 1 + tdeep t := by show tdeep ⟨18, ⟨#[]⟩, 0, [t]⟩ = _; rw [tdeep, ldeep, ldeep]; simp
  have hb : bigT t = false := by rw [bigT_is]; simp; omega
  have hb2 : bigT (notT t) = false := by rw [bigT_is]; simp; omega
  have hr : rightT t 4 = true := by
    have : rightT (notT t) 0 = (okHead (shp 18) ⟨#[]⟩ 0 1 0 && (rightT t 4 && true)) := by
      show rightT ⟨18, ⟨#[]⟩, 0, [t]⟩ 0 = _
      rw [rightT, if_neg (by decide), rightL, rightL]; rfl
    rw [h3] at this
    have := this.symm
    rw [Bool.and_eq_true, Bool.and_true] at this
    exact this.2
  rw [right_want (by decide), Bool.and_eq_true] at hr
  have hs4 := of_decide_eq_true hr.2
  unfold sortT
  rw [hb, hb2]
  simp only [Bool.false_eq_true, if_false]
  rw [if_pos hr.1, if_pos h3]
  exact ⟨rfl, hs4, rfl⟩

theorem clauses_ok {t : S24} (h : (clausesT t).2.2.2 = 0) : (sortT t).2 = 0 ∧ (sortT t).1 = 4 ∧ clausesT t = ((litT (atomsT t) t (atomsT t).length []).2.2 ++ [[(litT (atomsT t) t (atomsT t).length []).1]], atomsT t, (litT (atomsT t) t (atomsT t).length []).2.1, 0) := by
  by_cases h0 : (sortT t).2 = 0
  · by_cases h4 : (sortT t).1 = 4
    · exact ⟨h0, h4, by unfold clausesT; rw [if_pos h0, if_pos h4]⟩
    · unfold clausesT at h; rw [if_pos h0, if_neg h4] at h; exact absurd h (by decide)
  · unfold clausesT at h; rw [if_neg h0] at h; exact absurd h h0
theorem clauses_bad {t : S24} (h : (clausesT t).2.2.2 ≠ 0) : ¬ ((sortT t).2 = 0 ∧ (sortT t).1 = 4) := by
  rintro ⟨h0, h4⟩
  apply h; unfold clausesT; rw [if_pos h0, if_pos h4]
/-- The law, plain: what is not right is not right behind Not; else the last clause alone is turned. -/
theorem not_law (t : S24) : ((clausesT t).2.2.2 ≠ 0 → (clausesT (notT t)).2.2.2 ≠ 0) ∧ ((clausesT t).2.2.2 = 0 → (clausesT (notT t)).2.2.2 = 0 → ∃ (cls : List (List Int)) (ats : List S24) (n L : Int), clausesT t = (cls ++ [[L]], ats, n, 0) ∧ clausesT (notT t) = (cls ++ [[-L]], ats, n, 0) ∧ -1000000 ≤ L ∧ L ≤ 1000000 ∧ cls.length ≤ 100000 ∧ ∀ x, x ∈ cls → x.length ≤ 1000000) := by
  constructor
  · intro h h2
    obtain ⟨s0, s4, -⟩ := clauses_ok h2
    have := sort_not t s0
    exact clauses_bad h ⟨this.1, this.2.1⟩
  · intro h h2
    obtain ⟨s0, s4, e⟩ := clauses_ok h
    obtain ⟨-, -, e2⟩ := clauses_ok h2
    rw [atoms_not, lit_not] at e2
    have hs := sort_small s0
    have hal := atomsT_len t
    have hle := litT_le (atomsT t) t ((atomsT t).length : Int) [] (Int.le_refl _)
    have hrow := litT_row (atomsT t) 1000000 t ((atomsT t).length : Int) [] (Int.le_refl _) (by omega) (by simp)
    refine ⟨_, _, _, _, e, e2, by omega, by omega, ?_, hrow⟩
    have := hle.2.2.2.2
    simp at this; omega

/-- What Clauses answers, for a walk. -/
theorem Clauses_of (t : S24) (A : Option Addr) (c : Nat) (W w : World) (cls : List (List Int)) (ats : List S24) (n e : Int) (h : clausesT t = (cls, ats, n, e)) (hC : Kd.C k24 w A t.f3.length t.f3) (hc : t.f3.length ≤ c) :
    Calls Tryd.prog 10 #[.agg #[.int .i64 t.f0, .string t.f1, .int .i64 t.f2, .slice A t.f3.length c]] w fun x w' => ∃ (A0 A1 : Option Addr) (c0 c1 : Nat), x = .returned (.tuple #[.slice A0 cls.length c0, .slice A1 ats.length c1, .int .i64 n, .int .i64 e]) ∧ cls.length ≤ c0 ∧ Kd.C (Kd.slice 3 (Kd.int .i64)) w' A0 cls.length cls ∧ ats.length ≤ c1 ∧ Kd.C k24 w' A1 ats.length ats ∧ Below w.heap.size w w' := by
  refine (Clauses_any t (fun k => k < w.heap.size) A c w (Kd.C_F k24_heap hC) hc).mono ?_
  rw [h]
  rintro x w' ⟨v0, v1, rfl, h0, ⟨A1, c1, rfl, l1, g1⟩, hb⟩
  obtain ⟨A0, c0, rfl⟩ := Kd.N_slice h0
  exact ⟨A0, A1, c0, c1, rfl, (Kd.N_reads' h0).2.1, (Kd.N_reads' h0).2.2, l1, Kd.F_now g1, hb⟩

/-- The last row's one number; the rows ahead of it. -/
theorem last_cell {W : World} {A : Option Addr} {cls : List (List Int)} {L : Int} (hC : Kd.C (Kd.slice 3 (Kd.int .i64)) W A (cls ++ [[L]]).length (cls ++ [[L]])) :
    ∃ (ad al : Addr) (c' : Nat), A = some ad ∧ W.cell? (ad.add cls.length) = some (.slice (some al) 1 c') ∧ W.cell? al = some (.int .i64 L) ∧ Kd.C (Kd.slice 3 (Kd.int .i64)) W A cls.length cls := by
  obtain ⟨ad, A0, c0, rfl, x0, l0, g0⟩ := at_L1 hC (cls.length : Int) (by omega) (by rw [List.length_append, List.length_singleton]; omega)
  have erd : rd_L1 (cls ++ [[L]]) (cls.length : Int) = [L] := by simp [rd_L1]
  rw [erd, Int.toNat_natCast] at x0
  rw [erd] at g0
  obtain ⟨al, rfl, y0⟩ := Kd.at_int g0 0 (Int.le_refl _) (by show (0 : Int) < 1; decide)
  have hT := Kd.C_take hC (m := cls.length) (by simp)
  rw [List.take_left' rfl] at hT
  have y1 : W.cell? al = some (.int .i64 L) := by
    have e : al.add ((0 : Int).toNat) = al := by simp [Addr.add_zero']
    rw [e] at y0
    exact y0
  exact ⟨ad, al, c0, rfl, x0, y1, hT⟩

set_option maxHeartbeats 8000000 in
set_option maxRecDepth 100000 in
theorem CnfNot_any (t : S24) (A : Option Addr) (c : Nat) (w : World) (hC : Kd.C k24 w A t.f3.length t.f3) (hc : t.f3.length ≤ c) :
    Calls Tryd.prog 6 #[.agg #[.int .i64 t.f0, .string t.f1, .int .i64 t.f2, .slice A t.f3.length c]] w fun e w' => e = .returned (.bool true) ∧ Below w.heap.size w w' := by
  let O : Obj := .cells #[.int .i64 t.f0, .string t.f1, .int .i64 t.f2, .slice A t.f3.length c] 24
  have HC := Lib.hid hC
  have B1 := below_alloc (Below.refl w.heap.size w) O
  have LAW := Lib.hid (not_law t)
  have k1 := blk_new w O
  have K1 := Lib.hid k1
  have HB1 := Lib.hid B1
  clear hC B1 k1
  obtain ⟨cl1, at1, n1, e1, h1⟩ : ∃ a b c d, clausesT t = (a, b, c, d) := ⟨_, _, _, _, rfl⟩
  obtain ⟨cl2, at2, n2, e2, h2⟩ : ∃ a b c d, clausesT (notT t) = (a, b, c, d) := ⟨_, _, _, _, rfl⟩
  have H1 := Lib.hid h1
  have H2 := Lib.hid h2
  have law := LAW.out
  rw [h1, h2] at law
  simp only at law
  have LAW2 := Lib.hid law
  clear h1 h2 law LAW
  go_enter Tryd.func6, Tryd.ntmps6
  go_wp2_with fail
  refine (shown_any _).mono ?_
  rintro e w1 ⟨rfl, hb1⟩
  have HB2 := Lib.hid (HB1.out.trans (hb1.mono HB1.out.size))
  have k2 := blk_below K1.out hb1
  have p0 : w1.cell? ⟨w.heap.size, 0, none⟩ = some (.int .i64 t.f0) := (blk_cell k2 0).trans rfl
  have p1 : w1.cell? ⟨w.heap.size, 1, none⟩ = some (.string t.f1) := (blk_cell k2 1).trans rfl
  have p2 : w1.cell? ⟨w.heap.size, 2, none⟩ = some (.int .i64 t.f2) := (blk_cell k2 2).trans rfl
  have p3 : w1.cell? ⟨w.heap.size, 3, none⟩ = some (.slice A t.f3.length c) := (blk_cell k2 3).trans rfl
  have K2 := Lib.hid k2
  clear hb1 k2 K1 HB1
  go_wp2_with fail
  refine (Clauses_of t A c w1 w1 cl1 at1 n1 e1 H1.out (Kd.C_below HC.out HB2.out) hc).mono ?_
  rintro e w2 ⟨A0, A1, c0, c1, rfl, hc0, q1, hc1, -, hb2⟩
  have Q1 := Lib.hid q1
  have HB3 := Lib.hid (HB2.out.trans (hb2.mono HB2.out.size))
  have k2 := blk_below K2.out hb2
  clear p0 p1 p2 p3 q1 hb2 HB2 K2
  have p0 : w2.cell? ⟨w.heap.size, 0, none⟩ = some (.int .i64 t.f0) := (blk_cell k2 0).trans rfl
  have p1 : w2.cell? ⟨w.heap.size, 1, none⟩ = some (.string t.f1) := (blk_cell k2 1).trans rfl
  have p2 : w2.cell? ⟨w.heap.size, 2, none⟩ = some (.int .i64 t.f2) := (blk_cell k2 2).trans rfl
  have p3 : w2.cell? ⟨w.heap.size, 3, none⟩ = some (.slice A t.f3.length c) := (blk_cell k2 3).trans rfl
  clear k2
  go_wp2_with fail
  have b4 := below_alloc (Below.refl w2.heap.size w2) (.cells #[.int .i64 t.f0, .string t.f1, .int .i64 t.f2, .slice A t.f3.length c] 24)
  have hrow : Kd.C k24 (w2.alloc (.cells #[.int .i64 t.f0, .string t.f1, .int .i64 t.f2, .slice A t.f3.length c] 24)) (some ⟨w2.heap.size, 0, none⟩) 1 [t] :=
    row_T1 (blk_new _ _) (k24_mk _ t hc (Kd.C_below HC.out (HB3.out.trans (b4.mono HB3.out.size))))
  refine (Clauses_of (notT t) _ 1 w2 _ cl2 at2 n2 e2 H2.out hrow (Nat.le_refl _)).mono ?_
  rintro e w3 ⟨A2, A3, c2, c3, rfl, hc2, q2, hc3, -, hb3⟩
  have Q2 := Lib.hid q2
  have hb4 := b4.trans (hb3.mono b4.size)
  have Q3 := Lib.hid (Kd.C_below Q1.out hb4)
  have HB4 := Lib.hid (HB3.out.trans (hb4.mono HB3.out.size))
  clear q2 hb3 hb4 b4 hrow p0 p1 p2 p3 Q1 HB3 H1 H2
  by_cases he1 : e1 = 0
  · by_cases he2 : e2 = 0
    · obtain ⟨cls, ats, n, L, g1, g2, g3, g4, g5, g6⟩ := LAW2.out.2 he1 he2
      simp only [Prod.mk.injEq] at g1 g2
      obtain ⟨rfl, rfl, rfl, -⟩ := g1
      obtain ⟨rfl, rfl, rfl, -⟩ := g2
      subst he1 he2
      clear LAW2
      obtain ⟨kk, hkk⟩ := same_refl cls (by omega) g6
      obtain ⟨ad, al, cl, rfl, s1, s2, T1⟩ := last_cell Q3.out
      obtain ⟨am, bl, cm, rfl, s3, s4, T2⟩ := last_cell Q2.out
      have el1 : (cls ++ [[L]]).length = cls.length + 1 := by simp
      have el2 : (cls ++ [[-L]]).length = cls.length + 1 := by simp
      rw [el1] at hc0
      rw [el2] at hc2
      rw [el1, el2]
      clear el1 el2 Q3 Q2 g6
      have ew : wrap64 (((cls.length + 1 : Nat) : Int) - 1) = (cls.length : Int) := by unfold wrap64; omega
      have en : wrap64 (-L) = -L := neg64 g3 g4
      have hx1 : ((cls.length : Int) < ((cls.length + 1 : Nat) : Int)) = True := eq_true (by omega)
      have hx4 : ((cls.length : Int) < (cls.length : Int) + 1) = True := eq_true (by omega)
      have hx0 : (0 ≤ (cls.length : Int)) = True := eq_true (by omega)
      have hx2 : (cls.length ≤ c0) = True := eq_true (by omega)
      have hx3 : (cls.length ≤ c2) = True := eq_true (by omega)
      have HS := Lib.hid (fun (W : World) (h0 : Kd.C (Kd.slice 3 (Kd.int .i64)) W (some ad) cls.length cls) (h2 : Kd.C (Kd.slice 3 (Kd.int .i64)) W (some am) cls.length cls) => ashlarlaw07_same.calls kk (some ad) c0 cls (some am) c2 cls true W h0 (by omega) h2 (by omega) hkk)
      have T1 := Lib.hid T1
      have T2 := Lib.hid T2
      clear hkk
      go_wp2_with fail
      refine wp_region_held_drew (S := (fun w' => w'.cell? (ad.add cls.length) = some (.slice (some al) 1 cl) ∧ w'.cell? al = some (.int .i64 L) ∧ w'.cell? (am.add cls.length) = some (.slice (some bl) 1 cm) ∧ w'.cell? bl = some (.int .i64 (-L)))) (by kernel_rfl) ?_ (fun hHeld => ?_)
      · exact ⟨s1, s2, s3, s4⟩
      iterate 2 ((first | refine tk0 ?_ (by decide +kernel) (by rfl) (fun _ _ _ => id) ?_ (by assumption) ?_ | refine tk1 ?_ (by decide +kernel) (by rfl) (fun _ _ _ => id) ?_ (by assumption) ?_); (rotate_left 1); (focus (intro w_ hSw; (try dsimp only at hSw); go_simp; all_goals (with_reducible rfl); done)); focus try simp only [Act.put, List.setIfInBounds_toArray, List.set_cons_zero, List.set_cons_succ])
      (first | (refine tk2 ?_ (by kernel_rfl) (by rfl) (fun _ _ _ => id) ?_ (by assumption) ?_; rotate_left 1; (focus (intro w_ hSw; (try dsimp only at hSw); go_simp; all_goals (with_reducible rfl); done))) | refine un2 (by kernel_rfl) (by rfl) (fun _ _ _ => id) (by assumption) ?_); focus try simp only [Act.put, List.setIfInBounds_toArray, List.set_cons_zero, List.set_cons_succ]
      (first | (refine tk3 ?_ (by kernel_rfl) (by rfl) (fun _ _ _ => id) ?_ (by assumption) ?_; rotate_left 1; (focus (intro w_ hSw; (try dsimp only at hSw); go_simp; all_goals (with_reducible rfl); done))) | refine un3 (by kernel_rfl) (by rfl) (fun _ _ _ => id) (by assumption) ?_); focus try simp only [Act.put, List.setIfInBounds_toArray, List.set_cons_zero, List.set_cons_succ]
      (first | (refine tk4 ?_ (by kernel_rfl) (by rfl) (fun _ _ _ => id) ?_ (by assumption) ?_; rotate_left 1; (focus (intro w_ hSw; (try dsimp only at hSw); go_simp; all_goals (with_reducible rfl); done))) | refine un4 (by kernel_rfl) (by rfl) (fun _ _ _ => id) (by assumption) ?_); focus try simp only [Act.put, List.setIfInBounds_toArray, List.set_cons_zero, List.set_cons_succ]
      (first | (refine tk5 ?_ (by kernel_rfl) (by rfl) (fun _ _ _ => id) ?_ (by assumption) ?_; rotate_left 1; (focus (intro w_ hSw; (try dsimp only at hSw); go_simp; all_goals (with_reducible rfl); done))) | refine un5 (by kernel_rfl) (by rfl) (fun _ _ _ => id) (by assumption) ?_); focus try simp only [Act.put, List.setIfInBounds_toArray, List.set_cons_zero, List.set_cons_succ]
      (first | (refine tk6 ?_ (by kernel_rfl) (by rfl) (fun _ _ _ => id) ?_ (by assumption) ?_; rotate_left 1; (focus (intro w_ hSw; (try dsimp only at hSw); go_simp; all_goals (with_reducible rfl); done))) | refine un6 (by kernel_rfl) (by rfl) (fun _ _ _ => id) (by assumption) ?_); focus try simp only [Act.put, List.setIfInBounds_toArray, List.set_cons_zero, List.set_cons_succ]
      iterate 2 ((first | refine tk7 ?_ (by decide +kernel) (by rfl) (fun _ _ _ => id) ?_ (by assumption) ?_ | refine tk8 ?_ (by decide +kernel) (by rfl) (fun _ _ _ => id) ?_ (by assumption) ?_); (rotate_left 1); (focus (intro w_ hSw; (try dsimp only at hSw); go_simp; all_goals (with_reducible rfl); done)); focus try simp only [Act.put, List.setIfInBounds_toArray, List.set_cons_zero, List.set_cons_succ])
      (first | (refine tk9 ?_ (by kernel_rfl) (by rfl) (fun _ _ _ => id) ?_ (by assumption) ?_; rotate_left 1; (focus (intro w_ hSw; (try dsimp only at hSw); go_simp; all_goals (with_reducible rfl); done))) | refine un9 (by kernel_rfl) (by rfl) (fun _ _ _ => id) (by assumption) ?_); focus try simp only [Act.put, List.setIfInBounds_toArray, List.set_cons_zero, List.set_cons_succ]
      (first | (refine tk10 ?_ (by kernel_rfl) (by rfl) (fun _ _ _ => id) ?_ (by assumption) ?_; rotate_left 1; (focus (intro w_ hSw; (try dsimp only at hSw); go_simp; all_goals (with_reducible rfl); done))) | refine un10 (by kernel_rfl) (by rfl) (fun _ _ _ => id) (by assumption) ?_); focus try simp only [Act.put, List.setIfInBounds_toArray, List.set_cons_zero, List.set_cons_succ]
      (first | (refine tk11 ?_ (by kernel_rfl) (by rfl) (fun _ _ _ => id) ?_ (by assumption) ?_; rotate_left 1; (focus (intro w_ hSw; (try dsimp only at hSw); go_simp; all_goals (with_reducible rfl); done))) | refine un11 (by kernel_rfl) (by rfl) (fun _ _ _ => id) (by assumption) ?_); focus try simp only [Act.put, List.setIfInBounds_toArray, List.set_cons_zero, List.set_cons_succ]
      iterate 2 ((first | refine tk12 ?_ (by decide +kernel) (by rfl) (fun _ _ _ => id) ?_ (by assumption) ?_ | refine tk13 ?_ (by decide +kernel) (by rfl) (fun _ _ _ => id) ?_ (by assumption) ?_); (rotate_left 1); (focus (intro w_ hSw; (try dsimp only at hSw); go_simp; all_goals (with_reducible rfl); done)); focus try simp only [Act.put, List.setIfInBounds_toArray, List.set_cons_zero, List.set_cons_succ])
      (first | (refine tk14 ?_ (by kernel_rfl) (by rfl) (fun _ _ _ => id) ?_ (by assumption) ?_; rotate_left 1; (focus (intro w_ hSw; (try dsimp only at hSw); go_simp; all_goals (with_reducible rfl); done))) | refine un14 (by kernel_rfl) (by rfl) (fun _ _ _ => id) (by assumption) ?_); focus try simp only [Act.put, List.setIfInBounds_toArray, List.set_cons_zero, List.set_cons_succ]
      (first | (refine tk15 ?_ (by kernel_rfl) (by rfl) (fun _ _ _ => id) ?_ (by assumption) ?_; rotate_left 1; (focus (intro w_ hSw; (try dsimp only at hSw); go_simp; all_goals (with_reducible rfl); done))) | refine un15 (by kernel_rfl) (by rfl) (fun _ _ _ => id) (by assumption) ?_); focus try simp only [Act.put, List.setIfInBounds_toArray, List.set_cons_zero, List.set_cons_succ]
      (first | (refine tk16 ?_ (by kernel_rfl) (by rfl) (fun _ _ _ => id) ?_ (by assumption) ?_; rotate_left 1; (focus (intro w_ hSw; (try dsimp only at hSw); go_simp; all_goals (with_reducible rfl); done))) | refine un16 (by kernel_rfl) (by rfl) (fun _ _ _ => id) (by assumption) ?_); focus try simp only [Act.put, List.setIfInBounds_toArray, List.set_cons_zero, List.set_cons_succ]
      (first | (refine tk17 ?_ (by kernel_rfl) (by rfl) (fun _ _ _ => id) ?_ (by assumption) ?_; rotate_left 1; (focus (intro w_ hSw; (try dsimp only at hSw); go_simp; all_goals (with_reducible rfl); done))) | refine un17 (by kernel_rfl) (by rfl) (fun _ _ _ => id) (by assumption) ?_); focus try simp only [Act.put, List.setIfInBounds_toArray, List.set_cons_zero, List.set_cons_succ]
      (first | (refine tk18 ?_ (by kernel_rfl) (by rfl) (fun _ _ _ => id) ?_ (by assumption) ?_; rotate_left 1; (focus (intro w_ hSw; (try dsimp only at hSw); go_simp; all_goals (with_reducible rfl); done))) | refine un18 (by kernel_rfl) (by rfl) (fun _ _ _ => id) (by assumption) ?_); focus try simp only [Act.put, List.setIfInBounds_toArray, List.set_cons_zero, List.set_cons_succ]
      iterate 2 ((first | refine tk19 ?_ (by decide +kernel) (by rfl) (fun _ _ _ => id) ?_ (by assumption) ?_ | refine tk20 ?_ (by decide +kernel) (by rfl) (fun _ _ _ => id) ?_ (by assumption) ?_); (rotate_left 1); (focus (intro w_ hSw; (try dsimp only at hSw); go_simp; all_goals (with_reducible rfl); done)); focus try simp only [Act.put, List.setIfInBounds_toArray, List.set_cons_zero, List.set_cons_succ])
      (first | (refine tk21 ?_ (by kernel_rfl) (by rfl) (fun _ _ _ => id) ?_ (by assumption) ?_; rotate_left 1; (focus (intro w_ hSw; (try dsimp only at hSw); go_simp; all_goals (with_reducible rfl); done))) | refine un21 (by kernel_rfl) (by rfl) (fun _ _ _ => id) (by assumption) ?_); focus try simp only [Act.put, List.setIfInBounds_toArray, List.set_cons_zero, List.set_cons_succ]
      (first | (refine tk22 ?_ (by kernel_rfl) (by rfl) (fun _ _ _ => id) ?_ (by assumption) ?_; rotate_left 1; (focus (intro w_ hSw; (try dsimp only at hSw); go_simp; all_goals (with_reducible rfl); done))) | refine un22 (by kernel_rfl) (by rfl) (fun _ _ _ => id) (by assumption) ?_); focus try simp only [Act.put, List.setIfInBounds_toArray, List.set_cons_zero, List.set_cons_succ]
      (first | (refine tk23 ?_ (by kernel_rfl) (by rfl) (fun _ _ _ => id) ?_ (by assumption) ?_; rotate_left 1; (focus (intro w_ hSw; (try dsimp only at hSw); go_simp; all_goals (with_reducible rfl); done))) | refine un23 (by kernel_rfl) (by rfl) (fun _ _ _ => id) (by assumption) ?_); focus try simp only [Act.put, List.setIfInBounds_toArray, List.set_cons_zero, List.set_cons_succ]
      (first | (refine tk24 ?_ (by kernel_rfl) (by rfl) (fun _ _ _ => id) ?_ (by assumption) ?_; rotate_left 1; (focus (intro w_ hSw; (try dsimp only at hSw); go_simp; all_goals (with_reducible rfl); done))) | refine un24 (by kernel_rfl) (by rfl) (fun _ _ _ => id) (by assumption) ?_); focus try simp only [Act.put, List.setIfInBounds_toArray, List.set_cons_zero, List.set_cons_succ]
      (first | (refine tk25 ?_ (by kernel_rfl) (by rfl) (fun _ _ _ => id) ?_ (by assumption) ?_; rotate_left 1; (focus (intro w_ hSw; (try dsimp only at hSw); go_simp; all_goals (with_reducible rfl); done))) | refine un25 (by kernel_rfl) (by rfl) (fun _ _ _ => id) (by assumption) ?_); focus try simp only [Act.put, List.setIfInBounds_toArray, List.set_cons_zero, List.set_cons_succ]
      (first | (refine tk26 ?_ (by kernel_rfl) (by rfl) (fun _ _ _ => id) ?_ (by assumption) ?_; rotate_left 1; (focus (intro w_ hSw; (try dsimp only at hSw); go_simp; all_goals (with_reducible rfl); done))) | refine un26 (by kernel_rfl) (by rfl) (fun _ _ _ => id) (by assumption) ?_); focus try simp only [Act.put, List.setIfInBounds_toArray, List.set_cons_zero, List.set_cons_succ]
      refine wpAnyH_ready (rs := [27]) (by kernel_rfl) (by simp) (ac27 (fun K hK => ?_) (AllReadyH.nil))
      focus go_simp
      focus (refine (HS.out _ (Kd.C_drew T1.out) (Kd.C_drew T2.out)).mono ?_; rintro e w9 ⟨rfl, hd⟩; obtain ⟨n9, rfl⟩ := hd.out)
      focus try simp only []
      refine hK.out _ _ ?_ (fun hHeld => ?_)
      · exact ⟨s1, s2, s3, s4⟩
      focus clear hK K; try simp only [Act.put, List.setIfInBounds_toArray, List.set_cons_zero, List.set_cons_succ]
      iterate 2 ((first | refine tk28 ?_ (by decide +kernel) (by rfl) (fun _ _ _ => id) ?_ (by assumption) ?_ | refine tk29 ?_ (by decide +kernel) (by rfl) (fun _ _ _ => id) ?_ (by assumption) ?_); (rotate_left 1); (focus (intro w_ hSw; (try dsimp only at hSw); go_simp; all_goals (with_reducible rfl); done)); focus try simp only [Act.put, List.setIfInBounds_toArray, List.set_cons_zero, List.set_cons_succ])
      (first | (refine tk30 ?_ (by kernel_rfl) (by rfl) (fun _ _ _ => id) ?_ (by assumption) ?_; rotate_left 1; (focus (intro w_ hSw; (try dsimp only at hSw); go_simp; all_goals (with_reducible rfl); done))) | refine un30 (by kernel_rfl) (by rfl) (fun _ _ _ => id) (by assumption) ?_); focus try simp only [Act.put, List.setIfInBounds_toArray, List.set_cons_zero, List.set_cons_succ]
      (first | (refine tk31 ?_ (by kernel_rfl) (by rfl) (fun _ _ _ => id) ?_ (by assumption) ?_; rotate_left 1; (focus (intro w_ hSw; (try dsimp only at hSw); go_simp; all_goals (with_reducible rfl); done))) | refine un31 (by kernel_rfl) (by rfl) (fun _ _ _ => id) (by assumption) ?_); focus try simp only [Act.put, List.setIfInBounds_toArray, List.set_cons_zero, List.set_cons_succ]
      (first | (refine tk32 ?_ (by kernel_rfl) (by rfl) (fun _ _ _ => id) ?_ (by assumption) ?_; rotate_left 1; (focus (intro w_ hSw; (try dsimp only at hSw); go_simp; all_goals (with_reducible rfl); done))) | refine un32 (by kernel_rfl) (by rfl) (fun _ _ _ => id) (by assumption) ?_); focus try simp only [Act.put, List.setIfInBounds_toArray, List.set_cons_zero, List.set_cons_succ]
      (first | (refine tk33 ?_ (by kernel_rfl) (by rfl) (fun _ _ _ => id) ?_ (by assumption) ?_; rotate_left 1; (focus (intro w_ hSw; (try dsimp only at hSw); go_simp; all_goals (with_reducible rfl); done))) | refine un33 (by kernel_rfl) (by rfl) (fun _ _ _ => id) (by assumption) ?_); focus try simp only [Act.put, List.setIfInBounds_toArray, List.set_cons_zero, List.set_cons_succ]
      (first | (refine tk34 ?_ (by kernel_rfl) (by rfl) (fun _ _ _ => id) ?_ (by assumption) ?_; rotate_left 1; (focus (intro w_ hSw; (try dsimp only at hSw); go_simp; all_goals (with_reducible rfl); done))) | refine un34 (by kernel_rfl) (by rfl) (fun _ _ _ => id) (by assumption) ?_); focus try simp only [Act.put, List.setIfInBounds_toArray, List.set_cons_zero, List.set_cons_succ]
      (first | (refine tk35 ?_ (by kernel_rfl) (by rfl) (fun _ _ _ => id) ?_ (by assumption) ?_; rotate_left 1; (focus (intro w_ hSw; (try dsimp only at hSw); go_simp; all_goals (with_reducible rfl); done))) | refine un35 (by kernel_rfl) (by rfl) (fun _ _ _ => id) (by assumption) ?_); focus try simp only [Act.put, List.setIfInBounds_toArray, List.set_cons_zero, List.set_cons_succ]
      (first | (refine tk36 ?_ (by kernel_rfl) (by rfl) (fun _ _ _ => id) ?_ (by assumption) ?_; rotate_left 1; (focus (intro w_ hSw; (try dsimp only at hSw); go_simp; all_goals (with_reducible rfl); done))) | refine un36 (by kernel_rfl) (by rfl) (fun _ _ _ => id) (by assumption) ?_); focus try simp only [Act.put, List.setIfInBounds_toArray, List.set_cons_zero, List.set_cons_succ]
      (first | (refine tk37 ?_ (by kernel_rfl) (by rfl) (fun _ _ _ => id) ?_ (by assumption) ?_; rotate_left 1; (focus (intro w_ hSw; (try dsimp only at hSw); go_simp; all_goals (with_reducible rfl); done))) | refine un37 (by kernel_rfl) (by rfl) (fun _ _ _ => id) (by assumption) ?_); focus try simp only [Act.put, List.setIfInBounds_toArray, List.set_cons_zero, List.set_cons_succ]
      (first | (refine tk38 ?_ (by kernel_rfl) (by rfl) (fun _ _ _ => id) ?_ (by assumption) ?_; rotate_left 1; (focus (intro w_ hSw; (try dsimp only at hSw); go_simp; all_goals (with_reducible rfl); done))) | refine un38 (by kernel_rfl) (by rfl) (fun _ _ _ => id) (by assumption) ?_); focus try simp only [Act.put, List.setIfInBounds_toArray, List.set_cons_zero, List.set_cons_succ]
      (first | (refine tk39 ?_ (by kernel_rfl) (by rfl) (fun _ _ _ => id) ?_ (by assumption) ?_; rotate_left 1; (focus (intro w_ hSw; (try dsimp only at hSw); go_simp; all_goals (with_reducible rfl); done))) | refine un39 (by kernel_rfl) (by rfl) (fun _ _ _ => id) (by assumption) ?_); focus try simp only [Act.put, List.setIfInBounds_toArray, List.set_cons_zero, List.set_cons_succ]
      (first | (refine tk40 ?_ (by kernel_rfl) (by rfl) (fun _ _ _ => id) ?_ (by assumption) ?_; rotate_left 1; (focus (intro w_ hSw; (try dsimp only at hSw); go_simp; all_goals (with_reducible rfl); done))) | refine un40 (by kernel_rfl) (by rfl) (fun _ _ _ => id) (by assumption) ?_); focus try simp only [Act.put, List.setIfInBounds_toArray, List.set_cons_zero, List.set_cons_succ]
      (first | (refine tk41 ?_ (by kernel_rfl) (by rfl) (fun _ _ _ => id) ?_ (by assumption) ?_; rotate_left 1; (focus (intro w_ hSw; (try dsimp only at hSw); go_simp; all_goals (with_reducible rfl); done))) | refine un41 (by kernel_rfl) (by rfl) (fun _ _ _ => id) (by assumption) ?_); focus try simp only [Act.put, List.setIfInBounds_toArray, List.set_cons_zero, List.set_cons_succ]
      (first | (refine tk42 ?_ (by kernel_rfl) (by rfl) (fun _ _ _ => id) ?_ (by assumption) ?_; rotate_left 1; (focus (intro w_ hSw; (try dsimp only at hSw); go_simp; all_goals (with_reducible rfl); done))) | refine un42 (by kernel_rfl) (by rfl) (fun _ _ _ => id) (by assumption) ?_); focus try simp only [Act.put, List.setIfInBounds_toArray, List.set_cons_zero, List.set_cons_succ]
      (first | (refine tk43 ?_ (by kernel_rfl) (by rfl) (fun _ _ _ => id) ?_ (by assumption) ?_; rotate_left 1; (focus (intro w_ hSw; (try dsimp only at hSw); go_simp; all_goals (with_reducible rfl); done))) | refine un43 (by kernel_rfl) (by rfl) (fun _ _ _ => id) (by assumption) ?_); focus try simp only [Act.put, List.setIfInBounds_toArray, List.set_cons_zero, List.set_cons_succ]
      iterate 2 ((first | refine tk44 ?_ (by decide +kernel) (by rfl) (fun _ _ _ => id) ?_ (by assumption) ?_ | refine tk45 ?_ (by decide +kernel) (by rfl) (fun _ _ _ => id) ?_ (by assumption) ?_); (rotate_left 1); (focus (intro w_ hSw; (try dsimp only at hSw); go_simp; all_goals (with_reducible rfl); done)); focus try simp only [Act.put, List.setIfInBounds_toArray, List.set_cons_zero, List.set_cons_succ])
      refine wpAnyH_done (by kernel_rfl) ?_ _; rotate_left 1
      go_wp2
      have en2 : IntKind.i64.wrap (-L) = -L := (PrintLast.i64_w _).trans en
      refine bodyPost_ret (v := .bool true) (by simp [results, Tryd.results6, go_sem, en2]) rfl ⟨rfl, ?_⟩
      exact HB4.out.trans ((pw_below_drewN (below_drew1 (Below.refl _ _)) _).mono HB4.out.size)
    · have he2b : (e2 != 0) = true := by simpa using he2
      subst he1
      clear LAW2
      go_wp2_with fail
      exact bodyPost_ret (v := .bool true) (by simp [results, Tryd.results6, go_sem]) rfl ⟨rfl, HB4.out⟩
  · have he2 := LAW2.out.1 he1
    have he1b : (e1 != 0) = true := by simpa using he1
    have he2b : (e2 != 0) = true := by simpa using he2
    clear LAW2 he1 he2
    go_wp2_with fail
    exact bodyPost_ret (v := .bool true) (by simp [results, Tryd.results6, go_sem]) rfl ⟨rfl, HB4.out⟩
end Go.Proofs.YthckboogibhjaaaDoor.Trm
