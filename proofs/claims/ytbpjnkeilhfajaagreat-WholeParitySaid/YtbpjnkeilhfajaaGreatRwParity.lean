/- WholeParity, walked. -/
import Derived.Test.YtbpjnkeilhfajaaGreatTl
import Derived.Test.YtbpjnkeilhfajaaGreatWnSh
import Derived.Test.YtbpjnkeilhfajaaGreatRwF12
namespace Go.Proofs
theorem Zpp0 {p q : Prop} (hq : q) (h : p = q := by first | (simp only [Act.put, List.setIfInBounds_toArray, List.set_cons_zero, List.set_cons_succ]; done) | (simp only [Act.put, List.setIfInBounds_toArray, List.set_cons_zero, List.set_cons_succ]; rfl) | rfl) : p := Eq.mpr h hq
theorem Zp00 {p : Prop} (h : p := by intro u hu; simp only [List.mem_cons, List.not_mem_nil, or_false] at hu; rcases hu with rfl | rfl | rfl | rfl <;> rfl) : p := h
theorem Zp01 {p : Prop} (h : p := by exact ⟨Nat.le_refl _, HCe.out.keep (HD.out.trans HB5_.out), HD.out.trans HB5_.out⟩) : p := h
theorem Zp02 {p : Prop} (h : p := by have := HL9.out.2; omega) : p := h
end Go.Proofs
namespace Go.Proofs.YtbpjnkeilhfajaaGreat.Rw
open Go.RowKit Go.Proofs.YtbpjnkeilhfajaaGreat.Given Go.Proofs.YtbpjnkeilhfajaaGreatW.PrintWords Go.Proofs.YtbpjnkeilhfajaaGreatW.PrintLast Go.Proofs.YtbpjnkeilhfajaaGreat.Num Go.Proofs.YtbpjnkeilhfajaaGreat.Ln Go.Proofs.YtbpjnkeilhfajaaGreat.Lin
set_option linter.unusedVariables false
set_option linter.unusedSimpArgs false
def Apart (v u : Value) : Prop := ∀ k, v.ownBlock = some k → u.ownBlock ≠ some k
theorem Apart.symm {v u : Value} (h : Apart v u) : Apart u v := fun k hu hv => h k hv hu
theorem wpList_appI2 {W : World} {ops : Array Oper} {rest : List Oper} {o : Oper} {a : Act} {Q : Exit → Act → World → Prop} (hgd : o.guard = none) (s x : Operand)
  (ho : o.op = .call { callee := .builtin .append, args := #[s, x], argTypes := #[23 , 23 ] })
  (base : Nat) (y : Int) (v v2 : Value) (l l2 : List Int) (hs : a.eval s = v) (hown : RowI W base v l) (hx : a.eval x = .slice (some ⟨W.heap.size, 0, none⟩) 1 1) (hn : l.length < 1000000) (hbase : base ≤ W.heap.size) (h2 : RowI W base v2 l2) (hap : Apart v2 v)
  (h : ∀ A n c w', Hid (RowI w' base (.slice A n c) (l ++ [y])) → Hid (Below base W w') → Hid (RowI w' base v2 l2 ∧ Apart v2 (.slice A n c)) → wpList Tryz.prog ops Q rest (a.put o.dst (.slice A n c)) w') : wpList Tryz.prog ops Q (o :: rest) a (W.alloc (.cells #[.int .i64 y] 2)) := by
 have hb0 : Below W.heap.size W (W.alloc (.cells #[.int .i64 y] 2)) := (Below.refl _ _).alloc (Nat.le_refl _) _
 refine wpList_app hgd s x _ ho base 2 (.int .i64 0) 1 8 Tryz.underlying23 infoI3 rfl (by decide) v l.length (intv l) hs (pw_own_below hown hb0) ⟨W.heap.size, 0, none⟩ 1 1 [.int .i64 y] hx rfl (fun j u hj => by
   match j, hj with
   | 0, hj => cases hj; rw [Addr.add_lit]; exact blk_cell (blk_new _ _) 0
   | j + 1, hj => cases hj) (fun u hu => by rw [List.mem_singleton.1 hu]; rfl) (by unfold maxLen; omega) (by omega) (by simp; omega) (fun v' w' k1 k2 k3 => ?_)
 have hr : RowI w' base v' (l ++ [y]) := by
  unfold RowI
  rw [List.length_append, List.length_singleton, show intv (l ++ [y]) = intv l ++ [.int .i64 y] by simp [intv]]
  exact k1
 obtain ⟨A, c, rfl, _⟩ := rowI_read hr
 refine h A _ c w' (Lib.hid hr) (Lib.hid ?_) (Lib.hid ⟨?_, ?_⟩)
 ·refine Below.grown (hb0.mono hbase) k2 (by simp; omega) (fun k hk => ?_)
  obtain ⟨_, _, hg⟩ := own_blk_ty hown hk
  exact hg
 ·have h3 := pw_own_below h2 hb0
  obtain ⟨hl, hv⟩ := h3
  refine ⟨hl, ?_⟩
  rcases hv with h' | ⟨g', cap, cur, rfl, h1, hb, h4⟩
  ·exact .inl h'
  ·exact .inr ⟨g', cap, cur, rfl, h1, (k2.block g' (blk_lt hb) (fun e => hap g' rfl e.symm)).trans hb, h4⟩
 ·intro k hq e
  rcases k3 with k3 | ⟨b, k3, hb⟩
  ·exact hap k hq (k3.symm.trans e)
  ·rw [k3] at e
   obtain rfl := Option.some.inj e
   obtain ⟨_, hc, _⟩ := own_blk_ty h2 hq
   have := blk_lt hc
   simp at hb
   omega
def upL (n : Nat) (cs : List Int) : List Int := (List.range n).map fun k => 2 * (cs.getD k 0).tmod 5
def dnL (n : Nat) (cs : List Int) : List Int := (List.range n).map fun k => -(2 * (cs.getD k 0).tmod 5)
theorem tmod5 (a : Int) : -4 ≤ a.tmod 5 ∧ a.tmod 5 ≤ 4 := by
 have h1 := Int.tmod_lt_of_pos a (show (0 : Int) < 5 by decide)
 have h2 := Int.lt_tmod_of_pos a (show (0 : Int) < 5 by decide)
 omega
theorem raw_lit4 {w : World} {g : Nat} {ty : TypeId} {x y z t : Value} (h : Hid (w.heap[g]? = some (.cells #[x, y, z, t] ty (0, 0)) ∧ g < w.heap.size)) (h1 : ∀ u, u ∈ [x, y, z, t] → u.oneCell' = true) : Raw w (some ⟨g, 0, none⟩) 2 2 [x, y, z, t] := by
 refine ⟨rfl, (fun e => by cases e), fun ad e j u hj => ?_, h1⟩
 obtain rfl := Option.some.inj e
 rw [Addr.add_lit, Nat.zero_add, blk_cell h.out.1]
 simpa using hj
theorem shareP {Goal : Prop} {Φ : Value → Nat → Value → World → Prop} (Facts : Value → World → Prop) (h1 : (∀ u g v w, Facts v w → Φ u g v w) → Goal) (h2 : ∀ u g v w, Facts v w → Φ u g v w) : Goal := h1 h2
theorem alloc_set (w : World) (x y u : Value) : (w.alloc (.cells #[x, y] 40)).setCell ⟨w.heap.size, 1, none⟩ u = w.alloc (.cells #[x, u] 40) := by
 have h : ((w.alloc (.cells #[x, y] 40)).setCell ⟨w.heap.size, 1, none⟩ u).heap = (w.alloc (.cells #[x, u] 40)).heap := by
  apply Array.ext_getElem?
  intro i
  by_cases hi : i = w.heap.size
  ·subst hi
   rw [blk_put (blk_new w (.cells #[x, y] 40)) 1 u rfl, blk_new]
   rfl
  ·rw [Below.heap_setCell _ ⟨w.heap.size, 1, none⟩ u i hi]
   by_cases hlt : i < w.heap.size
   ·rw [((Below.refl w.heap.size w).alloc (Nat.le_refl _) (.cells #[x, y] 40)).block i hlt, ((Below.refl w.heap.size w).alloc (Nat.le_refl _) (.cells #[x, u] 40)).block i hlt]
   ·rw [Array.getElem?_eq_none (by simp; omega), Array.getElem?_eq_none (by simp; omega)]
 have e : (w.alloc (.cells #[x, y] 40)).setCell ⟨w.heap.size, 1, none⟩ u = { w.alloc (.cells #[x, u] 40) with heap := ((w.alloc (.cells #[x, y] 40)).setCell ⟨w.heap.size, 1, none⟩ u).heap } := rfl
 rw [e, h]
set_option maxHeartbeats 16000000 in
set_option maxRecDepth 100000 in
theorem whparity_any (cs : List Int) (A : Option Addr) (c : Nat) (x : Int) (odd : Bool) (w : World) (hC : (Kd.int .i64).C w A cs.length cs) :
  Calls Tryz.prog 11 #[.slice A cs.length c, .int .i64 x, .bool odd] w fun e w' => e = .returned (.bool true) ∧ Below w.heap.size w w' := by
 obtain ⟨n, hn⟩ : ∃ n, min cs.length 3 = n := ⟨_, rfl⟩
 have em : min (cs.length : Int) 3 = (n : Int) := by rw [← hn]; omega
 have hn3 : n ≤ 3 := by omega
 have hnc : n ≤ cs.length := by omega
 obtain ⟨y0, hy0⟩ : ∃ y, Int.tmod x 4 = y := ⟨_, rfl⟩
 have hy4 : -3 ≤ y0 ∧ y0 ≤ 3 := by
  have h1 := Int.tmod_lt_of_pos x (show (0 : Int) < 4 by decide)
  have h2 := Int.lt_tmod_of_pos x (show (0 : Int) < 4 by decide)
  omega
 obtain ⟨K0, hK0⟩ : ∃ kk, 2 * y0 = kk := ⟨_, rfl⟩
 have ek : wrap64 (2 * y0) = K0 := by rw [hK0]; unfold wrap64; omega
 obtain ⟨kk, hK⟩ : ∃ kk, K0 + (if odd = true then 1 else 0) = kk := ⟨_, rfl⟩
 have hKb : -7 ≤ kk ∧ kk ≤ 7 := by rw [← hK]; split <;> omega
 have ek1 : odd = true → wrap64 (K0 + 1) = kk := fun h => by rw [if_pos h] at hK; rw [hK]; unfold wrap64; omega
 have ek0 : odd = false → K0 = kk := fun h => by rw [if_neg (by rw [h]; decide)] at hK; omega
 have ekn : wrap64 (-kk) = -kk := by unfold wrap64; omega
 have hKo : odd = true → kk % 2 = 1 := fun h => by rw [if_pos h] at hK; omega
 obtain ⟨L, hL⟩ : ∃ L, boxL n n ++ [⟨upL n cs, kk⟩, ⟨dnL n cs, -kk⟩] = L := ⟨_, rfl⟩
 have hu9 : ∀ r : S40, r ∈ [(⟨upL n cs, kk⟩ : S40), ⟨dnL n cs, -kk⟩] → Small9 n r := by
  intro r hr
  simp only [List.mem_cons, List.not_mem_nil, or_false] at hr
  rcases hr with rfl | rfl
  ·refine ⟨by simp [upL], fun z hz => ?_, by show kk.natAbs ≤ 9; omega⟩
   obtain ⟨k, _, rfl⟩ := List.mem_map.1 hz
   have := tmod5 (cs.getD k 0)
   omega
  ·refine ⟨by simp [dnL], fun z hz => ?_, by show (-kk).natAbs ≤ 9; omega⟩
   obtain ⟨k, _, rfl⟩ := List.mem_map.1 hz
   have := tmod5 (cs.getD k 0)
   omega
 obtain ⟨hbz, hb9⟩ := box_z hn3
 have hl9 : ∀ r, r ∈ L → Small9 n r := by
  intro r hr
  rw [← hL] at hr
  rcases List.mem_append.1 hr with h | h
  ·exact hb9 r h
  ·exact hu9 r h
 have hll : L.length ≤ 8 := by rw [← hL, List.length_append, boxL_len]; simp; omega
 have hlaw := knows_law hn3 (s9_z hu9) (by simp)
 rw [← hbz, ← List.map_append, hL] at hlaw
 have hodd : odd = true → ¬ SomeB (L.map toZ) n 3 := fun h => by
  rw [← hL, List.map_append]
  refine parity_none (y := fun k => (cs.getD k 0).tmod 5) (fun k hk => ?_) (fun k hk => ?_) (hKo h)
  ·show (upL n cs).getD k 0 = _
   rw [List.getD_eq_getElem?_getD]; simp [upL, hk]
  ·show (dnL n cs).getD k 0 = _
   rw [List.getD_eq_getElem?_getD]; simp [dnL, hk]
 have HN := Lib.hid (And.intro hn3 hnc)
 have HC := Lib.hid hC
 have HL9 := Lib.hid (And.intro hl9 hll)
 have HLL := Lib.hid hL
 have HLAW := Lib.hid hlaw
 have HODD := Lib.hid hodd
 have HEK := Lib.hid (And.intro ek (And.intro ek1 (And.intro ek0 ekn)))
 clear hC hn hnc hn3 hy4 hK0 hK hKb hKo hL hu9 hbz hb9 hl9 hll hlaw hodd ek ek1 ek0 ekn
 cases odd
 all_goals
  go_enter Tryz.func11, Tryz.ntmps11
  go_wp2_with fail
  refine (wshown_any _).mono ?_
  rintro e w1 ⟨rfl, hb1⟩
  have HB1 := Lib.hid hb1
  clear hb1
  obtain ⟨ek, ek1, ek0, ekn⟩ := HEK.out
  first | (have e0 := (ek0 (by trivial)).symm; subst e0; clear ek1) | (replace ek1 := ek1 (by trivial); clear ek0)
  go_wp2
  try rw [alloc_set]
  first | simp only [ek, ekn, ek1] | simp only [ek, ekn]
  have F1 := Lib.hid (show BxR ((w1.alloc (.cells #[.slice none 0 0, .int .i64 kk] 40)).alloc (.cells #[.slice none 0 0, .int .i64 (-kk)] 40)) w1.heap.size (.slice none 0 0) (.int .i64 kk) from blk_alloc (blk_new _ _) _)
  have F2 := Lib.hid (show BxR ((w1.alloc (.cells #[.slice none 0 0, .int .i64 kk] 40)).alloc (.cells #[.slice none 0 0, .int .i64 (-kk)] 40)) (w1.heap.size + 1) (.slice none 0 0) (.int .i64 (-kk)) from blk_newk2 (by simp))
  have FB := Lib.hid (show Below w1.heap.size w1 ((w1.alloc (.cells #[.slice none 0 0, .int .i64 kk] 40)).alloc (.cells #[.slice none 0 0, .int .i64 (-kk)] 40)) from (by repeat (first | exact Below.refl _ _ | with_reducible assumption | refine Below.alloc ?_ (by first | exact Nat.le_refl _ | (simp; done) | (simp; omega) | omega) _ | refine Below.setCell ?_ (by first | exact Nat.le_refl _ | (simp; done) | (simp; omega) | omega) _ | refine Below.drew ?_ | refine bdrewN ?_ _)))
  generalize ((w1.alloc (.cells #[.slice none 0 0, .int .i64 kk] 40)).alloc (.cells #[.slice none 0 0, .int .i64 (-kk)] 40)) = W at F1 F2 FB ⊢
  try clear ek
  try clear ekn
  try clear ek1
  go_loopw [11] (fun v11 wr => ∃ (i : Nat) (v9 v10 : Value), i ≤ n ∧ v11 = .int .i64 i ∧ Hid (BxR wr w1.heap.size v9 (.int .i64 kk)) ∧ Hid (BxR wr (w1.heap.size + 1) v10 (.int .i64 (-kk))) ∧ Hid (RowI wr (w1.heap.size + 2) v9 (upL i cs)) ∧ Hid (RowI wr (w1.heap.size + 2) v10 (dnL i cs)) ∧ Hid (Apart v9 v10) ∧ Hid (Below w1.heap.size w1 wr)) (fun v11 _ => n - (intOf v11).toNat)
  case atStart => exact ⟨0, _, _, Nat.zero_le _, rfl, F1, F2, Lib.hid rowI_nil, Lib.hid rowI_nil, Lib.hid (fun k hk => by cases hk), FB⟩
  case round =>
   clear F1 F2 FB
   obtain ⟨i, v9, v10, hi, rfl, HX9, HX10, HI9, HI10, HAP, HB⟩ := hrel
   by_cases hin : i < n
   ·have e1 : (i < n) = True := eq_true hin
    have hic : i < cs.length := Nat.lt_of_lt_of_le hin HN.out.2
    have e2 : (i < cs.length) = True := eq_true hic
    obtain ⟨ad, rfl, s0⟩ := i64_at HC.out hic
    replace s0 := kcell (HB1.out.trans (HB.out.mono HB1.out.size)) s0
    have hgd : cs.getD i 0 = cs[i] := by rw [List.getD_eq_getElem?_getD, List.getElem?_eq_getElem hic]; rfl
    have hu : upL (i + 1) cs = upL i cs ++ [2 * (cs.getD i 0).tmod 5] := by unfold upL; rw [List.range_succ, List.map_append]; rfl
    have hd : dnL (i + 1) cs = dnL i cs ++ [-(2 * (cs.getD i 0).tmod 5)] := by unfold dnL; rw [List.range_succ, List.map_append]; rfl
    rw [hgd] at hu hd
    obtain ⟨z, hz⟩ : ∃ z, cs[i] = z := ⟨_, rfl⟩
    rw [hz] at s0 hu hd
    have h5 := tmod5 z
    obtain ⟨d, hdz⟩ : ∃ d, 2 * z.tmod 5 = d := ⟨_, rfl⟩
    rw [hdz] at hu hd
    have ed : wrap64 (2 * z.tmod 5) = d := by rw [hdz]; unfold wrap64; omega
    have en : wrap64 (-d) = -d := by unfold wrap64; omega
    have HED := Lib.hid (And.intro ed en)
    have HU := Lib.hid (And.intro hu hd)
    have HLn := Lib.hid (show (upL i cs).length < 1000000 ∧ (dnL i cs).length < 1000000 by have := HN.out.1; simp [upL, dnL]; omega)
    have EWi := Lib.hid (wrapj (show i + 1 < 9223372036854775808 by have := HN.out.1; omega))
    have HII := Lib.hid (And.intro hi hin)
    obtain ⟨p0, p1, p2, p3, p4⟩ := HX9.out.cells
    have hw2 : w1.heap.size + 2 ≤ wr.heap.size := HX10.out.cells.2.2.2.2
    clear hgd hu hd hz h5 hdz ed en hi hin hic
    obtain ⟨ed, en⟩ := HED.out
    go_wp2_with (at_builtin; refine Hid.out ?_)
    refine Lib.hid ?_
    refine wpList_appI2 rfl (.tmp 46) (.tmp 48) rfl (w1.heap.size + 2) d _ v10 _ (dnL i cs) rfl HI9.out rfl HLn.out.1 hw2 HI10.out HAP.out.symm ?_
    intro A9 n9 c9 w2 HI9' HB2 HS2
    have G9 := HX9.out.keep HB2.out (by omega)
    have G10 := HX10.out.keep HB2.out (by omega)
    obtain ⟨a0, a1, a2, a3, a4⟩ := G9.cells
    have J9 : BxR (w2.setCell ⟨w1.heap.size, 0, none⟩ (.slice A9 n9 c9)) w1.heap.size (.slice A9 n9 c9) (.int .i64 kk) := blk_put G9 0 _ rfl
    have J10 : BxR (w2.setCell ⟨w1.heap.size, 0, none⟩ (.slice A9 n9 c9)) (w1.heap.size + 1) v10 (.int .i64 (-kk)) := G10.far (by omega)
    obtain ⟨b0, -, -, -, b4⟩ := J10.cells
    have HJ := Lib.hid (And.intro J9 (And.intro J10 (And.intro (rowI_far (i := 0) HI9'.out (show w1.heap.size < w1.heap.size + 2 by omega) (.slice A9 n9 c9)) (And.intro (rowI_far (i := 0) HS2.out.1 (show w1.heap.size < w1.heap.size + 2 by omega) (.slice A9 n9 c9)) ((HB.out.trans (HB2.out.mono (Nat.le_add_right _ _))).setCell (p := ⟨w1.heap.size, 0, none⟩) (Nat.le_refl _) (.slice A9 n9 c9))))))
    clear G9 G10 J9 J10 p0 p1 p2 p3
    go_wp2_with (at_builtin; refine Hid.out ?_)
    refine Lib.hid ?_
    clear a0 a1 a2 a3 a4 b0
    have hws : (w2.setCell ⟨w1.heap.size, 0, none⟩ (.slice A9 n9 c9)).heap.size = w2.heap.size := by simp
    generalize w2.setCell ⟨w1.heap.size, 0, none⟩ (.slice A9 n9 c9) = w3 at HJ b4 hws ⊢
    obtain ⟨j1, j2, j3, j4, j5⟩ := HJ.out
    have hb3 : w1.heap.size + 2 ≤ w3.heap.size := b4
    refine wpList_appI2 rfl (.tmp 52) (.tmp 55) rfl (w1.heap.size + 2) (-d) _ (.slice A9 n9 c9) _ (upL i cs ++ [d]) rfl j4 (by rw [hws]; rfl) HLn.out.2 hb3 j3 HS2.out.2.symm ?_
    intro A10 n10 c10 w4 HI10' HB4 HS4
    have G9 := j1.keep HB4.out (by omega)
    have G10 := j2.keep HB4.out (by omega)
    obtain ⟨a0, a1, a2, a3, a4⟩ := G10.cells
    have HJ2 := Lib.hid (And.intro (show BxR (w4.setCell ⟨w1.heap.size + 1, 0, none⟩ (.slice A10 n10 c10)) w1.heap.size (.slice A9 n9 c9) (.int .i64 kk) from G9.far (by omega)) (And.intro (show BxR (w4.setCell ⟨w1.heap.size + 1, 0, none⟩ (.slice A10 n10 c10)) (w1.heap.size + 1) (.slice A10 n10 c10) (.int .i64 (-kk)) from blk_put G10 0 _ rfl) (And.intro (rowI_far (i := 0) HS4.out.1 (show w1.heap.size + 1 < w1.heap.size + 2 by omega) (.slice A10 n10 c10)) (And.intro (rowI_far (i := 0) HI10'.out (show w1.heap.size + 1 < w1.heap.size + 2 by omega) (.slice A10 n10 c10)) ((j5.trans (HB4.out.mono (Nat.le_add_right _ _))).setCell (p := ⟨w1.heap.size + 1, 0, none⟩) (Nat.le_succ _) (.slice A10 n10 c10))))))
    clear G9 G10 j1 j2 j3 j4 j5 ed en hb3 b4 hws
    go_wp2
    refine ⟨⟨i + 1, _, _, HII.out.2, congrArg (Value.int .i64) EWi.out, Lib.hid HJ2.out.1, Lib.hid HJ2.out.2.1, Lib.hid (by rw [HU.out.1]; exact HJ2.out.2.2.1), Lib.hid (by rw [HU.out.2]; exact HJ2.out.2.2.2.1), HS4.out.2 |> Lib.hid, Lib.hid HJ2.out.2.2.2.2⟩, ?_⟩
    rw [EWi.out]
    simp only [intOf, Int.toNat_natCast]
    exact meas_lt HII.out.2
   ·have hin' : i = n := by omega
    subst i
    have e1 : (n < n) = False := eq_false (Nat.lt_irrefl _)
    obtain ⟨A9, n9, c9, rfl⟩ : ∃ A n c, v9 = .slice A n c := by obtain ⟨A, c, e, _⟩ := rowI_read HI9.out; exact ⟨A, _, c, e⟩
    obtain ⟨A10, n10, c10, rfl⟩ : ∃ A n c, v10 = .slice A n c := by obtain ⟨A, c, e, _⟩ := rowI_read HI10.out; exact ⟨A, _, c, e⟩
    have HCe := Lib.hid (show Cells [(⟨w1.heap.size, 0, none⟩, .slice A9 n9 c9), (⟨w1.heap.size, 1, none⟩, .int .i64 kk), (⟨w1.heap.size + 1, 0, none⟩, .slice A10 n10 c10), (⟨w1.heap.size + 1, 1, none⟩, .int .i64 (-kk))] wr from ⟨HX9.out.cells.1, HX9.out.cells.2.1, HX10.out.cells.1, HX10.out.cells.2.1, trivial⟩)
    have HD := Lib.hid (show Below wr.heap.size wr wr.drew from (Below.refl _ _).drew)
    have HB2 := Lib.hid (HB1.out.trans (HB.out.mono HB1.out.size))
    clear hi hin
    go_wp2_with fail
    apply shareP (fun v w' => (∃ raws, RowsO w' wr.heap.size v L raws) ∧ Below wr.heap.size wr w')
    ·intro hΦ
     have HΦ := Lib.hid hΦ
     clear hΦ
     refine wp_region_L 6 (Hd _ wr wr.heap.size) (by kernel_rfl) (⟨Nat.le_refl _, HCe.out.keep (Below.refl _ _).drew, (Below.refl _ _).drew⟩) (fun hHeld => ?_)
     refine tl0.go ?_
     refine tl2.go ?_
     refine tl3.go ?_
     refine wpAnyL_ready (rs := [1, 4]) (by kernel_rfl) (by simp) (al1 (fun K hK => ?_) (al4 (fun K hK => ?_) (AllReadyL.nil)))
     focus go_simp
     focus (refine (box12_any n _ HN.out.1).mono ?_; rintro e w2 ⟨vb_, rb_, rfl, hOb, hb2⟩; have HOb := Lib.hid (hOb.low HD.out.size); have HD := Lib.hid (HD.out.trans (hb2.mono HD.out.size)); (try have HP4 := hp_keep HP4 hb2))
     focus try simp only []
     refine hK.out _ _ (fun _ => ?_) (fun hHeld => ?_)
     ·exact hHeld.keep hb2
     focus (have hHeld := hHeld (by decide); clear hK K; refine Zpp0 ?_)
     refine wpAnyL_ready (rs := [4]) (by kernel_rfl) (by simp) (al4 (fun K hK => ?_) (AllReadyL.nil))
     focus (refine sl_newh (.cells #[.slice A9 n9 c9, .int .i64 kk, .slice A10 n10 c10, .int .i64 (-kk)] 40) 2 (by kernel_rfl) (by intro w_; go_simp; done) (fun g4_ w2 hg4_ hb2 HP4 => ?_); have HD := Lib.hid (HD.out.trans (hb2.mono HD.out.size)); (try have HOb := Lib.hid (HOb.out.below hb2)))
     refine hK.out _ _ (fun _ => ?_) (fun hHeld => ?_)
     ·exact hHeld.keep hb2
     focus (have hHeld := hHeld (by decide); clear hK K; refine Zpp0 ?_)
     refine wpAnyL_ready (rs := [5]) (by kernel_rfl) (by simp) (al5 (fun K hK => ?_) (AllReadyL.nil))
     focus (refine stepRows rfl (.tmp 59) (.tmp 62) rfl wr.heap.size vb_ (boxL n n) [⟨upL n cs, kk⟩, ⟨dnL n cs, -kk⟩] rb_ [.slice A9 n9 c9, .int .i64 kk, .slice A10 n10 c10, .int .i64 (-kk)] (some ⟨g4_, 0, none⟩) 2 2 rfl rfl HOb.out rfl (raw_lit4 HP4 Zp00) (fun W hW => Enc.app (encOne (pw_own_below HI9.out HD.out) hW) (encOne (pw_own_below HI10.out HD.out) hW)) (by rw [boxL_len]; have := HN.out.1; omega) HD.out.size ?_; intro v5 w5_ HO5 HB5_ HG5)
     refine hK.out _ _ (fun _ => ?_) (fun hHeld => ?_)
     ·exact Zp01
     focus (have hHeld := hHeld (by decide); clear hK K; refine Zpp0 ?_)
     refine wpAnyL_ready (rs := [6]) (by kernel_rfl) (by simp) (al6 (fun K hK => ?_) (AllReadyL.nil))
     focus go_simp
     refine hK.out _ _ (fun h => absurd rfl h) (fun _ => ?_)
     focus (clear hK K; refine Zpp0 ?_)
     refine wpAnyL_done (by kernel_rfl) ?_ _; rotate_left 1
     focus (refine sl_newh (.cells #[.slice A9 n9 c9, .int .i64 kk, .slice A10 n10 c10, .int .i64 (-kk)] 40) 2 (by kernel_rfl) (by intro w_; go_simp; done) (fun g4_ w2 hg4_ hb2 HP4 => ?_); have HD := Lib.hid (HD.out.trans (hb2.mono HD.out.size)); (try have HOb := Lib.hid (HOb.out.below hb2)))
     refine hK.out _ _ (fun _ => ?_) (fun hHeld => ?_)
     ·exact hHeld.keep hb2
     focus (have hHeld := hHeld (by decide); clear hK K; refine Zpp0 ?_)
     refine wpAnyL_ready (rs := [1]) (by kernel_rfl) (by simp) (al1 (fun K hK => ?_) (AllReadyL.nil))
     focus go_simp
     focus (refine (box12_any n _ HN.out.1).mono ?_; rintro e w2 ⟨vb_, rb_, rfl, hOb, hb2⟩; have HOb := Lib.hid (hOb.low HD.out.size); have HD := Lib.hid (HD.out.trans (hb2.mono HD.out.size)); (try have HP4 := hp_keep HP4 hb2))
     focus try simp only []
     refine hK.out _ _ (fun _ => ?_) (fun hHeld => ?_)
     ·exact hHeld.keep hb2
     focus (have hHeld := hHeld (by decide); clear hK K; refine Zpp0 ?_)
     refine wpAnyL_ready (rs := [5]) (by kernel_rfl) (by simp) (al5 (fun K hK => ?_) (AllReadyL.nil))
     focus (refine stepRows rfl (.tmp 59) (.tmp 62) rfl wr.heap.size vb_ (boxL n n) [⟨upL n cs, kk⟩, ⟨dnL n cs, -kk⟩] rb_ [.slice A9 n9 c9, .int .i64 kk, .slice A10 n10 c10, .int .i64 (-kk)] (some ⟨g4_, 0, none⟩) 2 2 rfl rfl HOb.out rfl (raw_lit4 HP4 Zp00) (fun W hW => Enc.app (encOne (pw_own_below HI9.out HD.out) hW) (encOne (pw_own_below HI10.out HD.out) hW)) (by rw [boxL_len]; have := HN.out.1; omega) HD.out.size ?_; intro v5 w5_ HO5 HB5_ HG5)
     refine hK.out _ _ (fun _ => ?_) (fun hHeld => ?_)
     ·exact Zp01
     focus (have hHeld := hHeld (by decide); clear hK K; refine Zpp0 ?_)
     refine wpAnyL_ready (rs := [6]) (by kernel_rfl) (by simp) (al6 (fun K hK => ?_) (AllReadyL.nil))
     focus go_simp
     refine hK.out _ _ (fun h => absurd rfl h) (fun _ => ?_)
     focus (clear hK K; refine Zpp0 ?_)
     refine wpAnyL_done (by kernel_rfl) ?_ _; rotate_left 1
     all_goals exact HΦ.out vb_ g4_ v5 w5_ ⟨⟨_, by rw [← HLL.out]; exact HO5.out⟩, HD.out.trans HB5_.out⟩
    ·intro u59 g62 v5 w5 hf
     obtain ⟨⟨raws, hO⟩, hb5⟩ := hf
     obtain ⟨A4, c4, rfl, hc4, hC4⟩ := hO.read Zp02
     have HB5 := Lib.hid (HB2.out.trans (hb5.mono HB2.out.size))
     have HC4 := Lib.hid hC4
     have HC4c := Lib.hid hc4
     have hin : ∀ r, r ∈ L → RowIn r := fun r hr => s9_in (HL9.out.1 r hr)
     clear hO hb5 hc4 hC4 HX9 HX10 HI9 HI10 HAP HB HCe HD
     go_wp2_with fail
     rcases HLAW.out with ⟨p, hw, hpl, hck, hsm⟩ | ⟨hw, hno⟩
     ·have HPI := Lib.hid (show ∀ y, y ∈ p → In64 y by
       intro y hy
       refine wsolve_in (v := n) (f := 1000) hin y ?_
       rw [hw]; exact hy)
      have HK := Lib.hid (And.intro hpl hck)
      have HSM := Lib.hid hsm
      refine (wsolve_at HC4.out HC4c.out hin ⟨by decide, by decide⟩ Zp02 hw).mono ?_
      clear hw hpl hck hsm
      rintro e w6 ⟨⟨A5, c5, rfl, hC5⟩, hb5⟩
      have HC5 := Lib.hid hC5
      have HC4' := Lib.hid (Kd.C_below HC4.out hb5)
      have HB6 := Lib.hid (HB5.out.trans (hb5.mono HB5.out.size))
      obtain ⟨b, hb, hS⟩ := some12_any L A4 c4 n 3 w6 HC4'.out HN.out.1 (by decide) Zp02 HL9.out.1
      obtain rfl : b = true := hb.2 HSM.out
      have HS := Lib.hid hS
      clear hC5 hb5 hb hS hin
      go_wp2_with fail
      refine HS.out.mono ?_
      rintro e w7 ⟨rfl, hb6⟩
      have HC5' := Lib.hid (Kd.C_below HC5.out hb6)
      have HC4'' := Lib.hid (Kd.C_below HC4'.out hb6)
      have HB7 := Lib.hid (HB6.out.trans (hb6.mono HB6.out.size))
      clear hb6
      first
      | exact absurd HSM.out (HODD.out (by trivial))
      | (
        go_wp2_with fail
        refine (check12_any L p A4 A5 c4 c5 w7 HC4''.out HC5'.out (fun r hr => s9_in (HL9.out.1 r hr)) HPI.out).mono ?_
        rintro e w8 ⟨rfl, hb7⟩
        rw [HK.out.2]
        have HB8 := Lib.hid (HB7.out.trans (hb7.mono HB7.out.size))
        clear hb7
        go_wp2
        go_ret
        exact ⟨rfl, HB8.out⟩)
     ·have HNO := Lib.hid hno
      refine (wsolve_at HC4.out HC4c.out hin ⟨by decide, by decide⟩ Zp02 hw).mono ?_
      clear hw hno
      rintro e w6 ⟨⟨A5, c5, rfl, hC5⟩, hb5⟩
      have HC4' := Lib.hid (Kd.C_below HC4.out hb5)
      have HB6 := Lib.hid (HB5.out.trans (hb5.mono HB5.out.size))
      obtain ⟨b, hb, hS⟩ := some12_any L A4 c4 n 3 w6 HC4'.out HN.out.1 (by decide) Zp02 HL9.out.1
      obtain rfl : b = false := by cases b; rfl; exact absurd (hb.1 rfl) HNO.out
      have HS := Lib.hid hS
      clear hC5 hb5 hb hS hin
      go_wp2_with fail
      refine HS.out.mono ?_
      rintro e w7 ⟨rfl, hb6⟩
      have HB7 := Lib.hid (HB6.out.trans (hb6.mono HB6.out.size))
      clear hb6
      go_wp2
      go_ret
      exact ⟨rfl, HB7.out⟩
end Go.Proofs.YtbpjnkeilhfajaaGreat.Rw
