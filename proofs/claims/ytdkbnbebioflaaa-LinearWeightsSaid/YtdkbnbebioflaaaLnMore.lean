/- ashlarlaw11.LinearMore, walked. -/
import Derived.Test.YtdkbnbebioflaaaTl
import Derived.Test.YtdkbnbebioflaaaLnShown
import Derived.Test.YtdkbnbebioflaaaLnFew1
import Derived.Test.YtdkbnbebioflaaaLnSol
namespace Go.Proofs
theorem Zp1s {p q : Prop} (hq : q) (h : p = q := by first | (simp only [Act.put, List.setIfInBounds_toArray, List.set_cons_zero, List.set_cons_succ]; done) | (simp only [Act.put, List.setIfInBounds_toArray, List.set_cons_zero, List.set_cons_succ]; rfl) | rfl) : p := Eq.mpr h hq
theorem Z1s0 {p : Prop} (h : p := by first | exact Nat.le_refl _ | (simp; done) | (simp; omega) | omega) : p := h
theorem Z1s1 {p : Prop} (h : p := by kernel_rfl) : p := h
theorem Z1s2 {p : Prop} (h : p := by intro w_; go_simp; done) : p := h
theorem Z1s3 {p : Prop} (h : p := by have := HF.out; unfold maxLen; omega) : p := h
theorem Z1s4 {p : Prop} (h : p := by have := HF.out; omega) : p := h
theorem Z1s5 {p : Prop} (h : p := by exact hHeld.grown hg (fun k h => by cases h; have := HLT.out; have := HG0.out; show g0_ ≠ _; omega) (fun k h => by cases h; exact HG0.out)) : p := h
theorem Z1s6 {p : Prop} (h : p := by exact hHeld.grown hg2 (fun k h => by have := (HV1.out.lt k h).1; have := HLT.out; omega) (fun k h => (HV1.out.lt k h).1)) : p := h
theorem Z1s7 {p : Prop} (h : p := by rw [List.map_nil, solve_nil, if_pos hv, Int.toNat_natCast]) : p := h
theorem Z1s8 {p : Prop} (h : p := by rw [List.map_nil, solve_nil, if_neg hv]) : p := h
end Go.Proofs
namespace Go.Proofs.Ytdkbnbebioflaaa.Ln
open Go.RowKit Go.Proofs.Ytdkbnbebioflaaa.Num Go.Proofs.Ytdkbnbebioflaaa.Given Go.Proofs.Ytdkbnbebioflaaa.Lin Go.Proofs.YtdkbnbebioflaaaW.PrintWords
attribute [local go_sem] Go.Proofs.YtdkbnbebioflaaaW.PrintMore.min2_int
set_option linter.unusedVariables false
set_option linter.unusedSimpArgs false
theorem infoRow : (Try.prog.info? 38).map (fun i => (i.zero, i.size, i.bytes)) = some (some (.agg #[.slice none 0 0, .int .i64 0]), 2, 32) := by kernel_rfl
theorem sl_newh {P : Program} {o : Oper} {ops : Array Oper} {a : Act} {w : World} {K : Act → World → Prop} {Q : Exit → Act → World → Prop} (ob : Obj) (n : Nat)
  (hw : Region.wanted o (yielded ops a.tmps) = true)
  (hrun : ∀ w : World, (execOp a.eval o).run P w = .ok (.value (.slice (some ⟨w.heap.size, 0, none⟩) n n)) (w.alloc ob))
  (h : ∀ (g : Nat) (w2 : World), Hid (g = w.heap.size) → Below w.heap.size w w2 → Hid (w2.heap[g]? = some ob ∧ g < w2.heap.size) → K (a.put o.dst (.slice (some ⟨g, 0, none⟩) n n)) w2) :
  if Region.wanted o (yielded ops a.tmps) = true then Oper.wp P o a w K Q else K (a.put o.dst undef) w := by
 rw [if_pos hw]
 unfold Oper.wp
 rw [hrun, Oper.upon_value]
 exact h _ _ (Lib.hid rfl) ((Below.refl _ _).alloc (Nat.le_refl _) _) (Lib.hid ⟨blk_new _ _, by simp⟩)
theorem few_any {l : List S38} {A : Option Addr} {c : Nat} {w : World} (hC : Kd.C k38 w A l.length l) (hc : l.length ≤ c) :
  Calls Try.prog 7 #[.slice A l.length c] w fun e w' => (∃ A1 c1, e = .returned (.slice A1 (fewL l).length c1) ∧ Kd.S k38 38 w' w.heap.size (fun _ => True) (.slice A1 (fewL l).length c1) (fewL l)) ∧ Below w.heap.size w w' := by
 refine (ashlarlaw11_few.calls A c l (fewL l) w hC hc rfl).mono ?_
 rintro e w' ⟨v, rfl, hS, hb⟩
 obtain ⟨A1, c1, rfl⟩ := Kd.S_slice hS
 exact ⟨⟨A1, c1, rfl, hS⟩, hb⟩
theorem solve_row {l : List S38} {A : Option Addr} {c : Nat} {v fuel : Int} {w : World} (hC : Kd.C k38 w A l.length l) (hc : l.length ≤ c) (hin : ∀ r, r ∈ l → RowIn r) (hf : In64 fuel) {s : Int × List Rat × List Int} (hs : solve (l.map toZ) v fuel = s) :
  Calls Try.prog 11 #[.slice A l.length c, .int .i64 v, .int .i64 fuel] w fun e w' => (∃ A1 c1 vw, e = .returned (.tuple #[.int .i64 s.1, .slice A1 s.2.1.length c1, vw]) ∧ s.2.1.length ≤ c1 ∧ Kd.C k29 w' A1 s.2.1.length (s.2.1.map ofQ)) ∧ Below w.heap.size w w' := by
 subst hs
 refine (Solve_any l A c v fuel w hC hc hin hf).mono ?_
 rintro e w' ⟨⟨vp, vw, rfl, hp, hw⟩, hb⟩
 obtain ⟨A1, c1, rfl, h1, h2⟩ := Kd.R_reads (RowQ.toR hp)
 rw [List.length_map] at h1 h2 ⊢
 exact ⟨⟨A1, c1, vw, rfl, h1, h2⟩, hb⟩
theorem chk_row {l : List S38} {A A' : Option Addr} {c c' : Nat} {p : List Rat} {w : World} {b : Bool} (hC : Kd.C k38 w A l.length l) (hc : l.length ≤ c) (hin : ∀ r, r ∈ l → RowIn r) (hP : Kd.C k29 w A' p.length (p.map ofQ)) (hc' : p.length ≤ c') (hf : ∀ x, x ∈ p → Fit x) (hb : chkP l (p.map ofQ) = b) :
  Calls Try.prog 9 #[.slice A l.length c, .slice A' p.length c'] w fun e w' => e = .returned (.bool b) ∧ Below w.heap.size w w' := by
 have h := CheckPoint_any l (p.map ofQ) A A' c c' w hC hc (by rw [List.length_map]; exact hP) (by rw [List.length_map]; exact hc') hin (fun x hx => by
  obtain ⟨y, hy, rfl⟩ := List.mem_map.1 hx
  exact fit64 (hf y hy))
 rw [List.length_map, hb] at h
 exact h
theorem share4 {Goal : Prop} {Φ : Nat → Value → Nat → Value → World → Prop} (Facts : Value → World → Prop) (h1 : (∀ g v k u w, Facts u w → Φ g v k u w) → Goal) (h2 : ∀ g v k u w, Facts u w → Φ g v k u w) : Goal := h1 h2
theorem own_keepB {w w1 : World} {base : Nat} {e : TypeId} {size n : Nat} {v : Value} {xs : List Value} (h : Hid (w.ownsRow base e size v n xs)) (hb : Below w.heap.size w w1) : Hid (w1.ownsRow base e size v n xs) := by
 obtain ⟨hl, hv⟩ := h.out
 refine Lib.hid ⟨hl, ?_⟩
 rcases hv with h | ⟨g', cap, cur, rfl, h1, h2, h3⟩
 ·exact .inl h
 ·exact .inr ⟨g', cap, cur, rfl, h1, blk_below h2 hb, h3⟩
theorem own_none {w w2 : World} {base g : Nat} {e : TypeId} {size : Nat} (h : Hid (w2.heap[g]? = some (.cells #[] e (0, 0)) ∧ g < w2.heap.size)) (hg : base ≤ g) : Hid (w2.ownsRow base e size (.slice (some ⟨g, 0, none⟩) 0 0) 0 []) :=
 Lib.hid ⟨by rw [List.length_nil, Nat.zero_mul], .inr ⟨g, 0, #[], rfl, hg, h.out.1, Nat.le_refl _, Nat.zero_le _, by simp, by simp⟩⟩
theorem hp_grown {w w1 : World} {g : Nat} {o : Obj} {row : Option Nat} (h : Hid (w.heap[g]? = some o ∧ g < w.heap.size)) (hg : w.grownBy w1 row) (hne : row ≠ some g) : Hid (w1.heap[g]? = some o ∧ g < w1.heap.size) := by
 have := (hg.block g h.out.2 (fun e => hne e.symm)).trans h.out.1
 exact Lib.hid ⟨this, blk_lt this⟩
theorem raw_lit {w : World} {g : Nat} {ty : TypeId} {x y : Value} (h : Hid (w.heap[g]? = some (.cells #[x, y] ty (0, 0)) ∧ g < w.heap.size)) (hx : x.oneCell' = true) (hy : y.oneCell' = true) : Raw w (some ⟨g, 0, none⟩) 1 2 [x, y] := by
 refine ⟨rfl, (fun e => by cases e), fun ad e j u hj => ?_, fun u hu => ?_⟩
 ·obtain rfl := Option.some.inj e
  rw [Addr.add_lit, Nat.zero_add, blk_cell h.out.1]
  match j, hj with
  | 0, hj => exact hj
  | 1, hj => exact hj
 ·simp only [List.mem_cons, List.not_mem_nil, or_false] at hu
  rcases hu with rfl | rfl
  ·exact hx
  ·exact hy
set_option maxHeartbeats 64000000 in
set_option maxRecDepth 100000 in
theorem LinearMore_any (l : List S38) (A : Option Addr) (c : Nat) (r : S38) (A' : Option Addr) (c' : Nat) (v fuel : Int) (w : World) (hC : Kd.C k38 w A l.length l) (hc : l.length ≤ c) (hCr : (Kd.int .i64).C w A' r.f0.length r.f0) (hcr : r.f0.length ≤ c')
  (hin : ∀ x, x ∈ l → RowIn x) (hr : RowIn r) (hv : In64 v) (hf : In64 fuel) :
  Calls Try.prog 4 #[.slice A l.length c, .agg #[.slice A' r.f0.length c', .int .i64 r.f1], .int .i64 v, .int .i64 fuel] w fun e w' => e = .returned (.bool true) ∧ Below w.heap.size w w' := by
 have HC := Lib.hid hC
 have HCC := Lib.hid hc
 have HCR := Lib.hid hCr
 have HIN := Lib.hid (And.intro hin (And.intro hr (And.intro hv hf)))
 clear hC hc hCr hin hr hv hf
 go_enter Try.func4, Try.ntmps4
 go_wp2_with fail
 refine (shown_any _).mono ?_
 rintro e w1 ⟨rfl, hb1⟩
 have hz1 := hb1.size
 simp at hz1
 have hbx : w1.heap[w.heap.size]? = some (.cells #[.slice A' r.f0.length c', .int .i64 r.f1] 38 (0, 0)) := blk_below (blk_new w _) hb1
 have HB := Lib.hid (show Below w.heap.size w w1 by refine Below.trans ?_ (hb1.mono Z1s0); exact (by repeat (first | exact Below.refl _ _ | with_reducible assumption | refine Below.alloc ?_ Z1s0 _ | refine Below.setCell ?_ Z1s0 _ | refine Below.drew ?_ | refine bdrewN ?_ _)))
 have HBX := Lib.hid hbx
 clear hb1 hbx hz1
 go_wp2_with fail
 refine (few_any (Kd.C_below HC.out HB.out) HCC.out).mono ?_
 rintro e w2 ⟨⟨A1, c1, rfl, hS⟩, hb1⟩
 have HF := Lib.hid (fewL_len l)
 have HFI := Lib.hid (rowIn_few HIN.out.1)
 obtain ⟨m, hm⟩ : ∃ m, fewL l = m := ⟨_, rfl⟩
 rw [hm] at hS HF HFI ⊢
 have hlt := blk_lt HBX.out
 have HS1 := Lib.hid (Kd.S_mono (Kd.S_bound hS) (ok' := fun k => k ≠ w.heap.size) (fun k hk => by have := hk.2.1; omega))
 have HB := Lib.hid (HB.out.trans (hb1.mono HB.out.size))
 have HBX := Lib.hid (blk_below HBX.out hb1)
 have HLT := Lib.hid (Nat.lt_of_lt_of_le hlt hb1.size)
 have q0 : w2.cell? ⟨w.heap.size, 0, none⟩ = some (.slice A' r.f0.length c') := blk_cell HBX.out 0
 have f0 : w2.frozen? ⟨w.heap.size, 0, none⟩ = false := blk_frozen HBX.out 0
 clear hb1 hS hm hlt
 go_wp2_with fail
 have elen : (min (r.f0.length : Int) 70).toNat = (cut r).f0.length := by
  show _ = (r.f0.take 70).length
  rw [List.length_take]; omega
 rw [elen]
 have hC3 := (Kd.S_reads' (Kd.S_far HS1.out (p := ⟨w.heap.size, 0, none⟩) (fun k hk => hk) (.slice A' (cut r).f0.length c'))).2.2
 have HBX := Lib.hid (blk_put HBX.out 0 (.slice A' (cut r).f0.length c') rfl)
 have HB := Lib.hid (HB.out.setCell (p := ⟨w.heap.size, 0, none⟩) (Nat.le_refl _) (.slice A' (cut r).f0.length c'))
 have HLT := Lib.hid (show w.heap.size < (w2.setCell ⟨w.heap.size, 0, none⟩ (.slice A' (cut r).f0.length c')).heap.size by simp; exact HLT.out)
 generalize w2.setCell ⟨w.heap.size, 0, none⟩ (.slice A' (cut r).f0.length c') = w3 at hC3 HBX HB HLT ⊢
 obtain ⟨news, hraw, henc⟩ := raw_of row_one hC3 (by decide)
 have HRW := Lib.hid hraw
 have HEN := Lib.hid (And.intro henc hC3)
 have HC3 := Lib.hid (show Cells [(⟨w.heap.size, 0, none⟩, .slice A' (cut r).f0.length c'), (⟨w.heap.size, 1, none⟩, .int .i64 r.f1)] w3 from ⟨blk_cell HBX.out 0, blk_cell HBX.out 1, trivial⟩)
 clear q0 f0 elen hraw henc hC3
 apply share4 (fun u w5 => Hid (w5.ownsRow w3.heap.size 38 2 u (0 + m.length + 1) ([] ++ news ++ [.slice A' (cut r).f0.length c', .int .i64 r.f1])) ∧ Below w3.heap.size w3 w5)
 ·intro hΦ
  have HΦ := Lib.hid hΦ
  clear hΦ
  refine wp_region_L 6 (Hd _ w3 w3.heap.size) Z1s1 (⟨Nat.le_refl _, HC3.out.keep (Below.refl _ _).drew, (Below.refl _ _).drew⟩) (fun hHeld => ?_)
  refine tl1.go ?_
  refine tl3.go ?_
  refine wpAnyL_ready (rs := [0, 4]) Z1s1 (by simp) (al0 (fun K hK => ?_) (al4 (fun K hK => ?_) (AllReadyL.nil)))
  focus (refine sl_newh (.cells #[] 38) 0 Z1s1 Z1s2 (fun g0_ w2 hg0_ hb2 HP0 => ?_); have HG0 := Lib.hid (Nat.le_trans hHeld.size (Nat.le_of_eq hg0_.out.symm)); have HR0 := own_none (w := w3) (size := 2) HP0 HG0.out; (try have HNE := Lib.hid (show g4_ ≠ g0_ by have := hg0_.out; have := HPX.out.2; omega)); (try have HPX := hp_keep HPX hb2))
  refine hK.out _ _ (fun _ => ?_) (fun hHeld => ?_)
  ·exact hHeld.keep hb2
  focus (have hHeld := hHeld (by decide); clear hK K; refine Zp1s ?_)
  refine wpAnyL_ready (rs := [2, 4]) Z1s1 (by simp) (al2 (fun K hK => ?_) (al4 (fun K hK => ?_) (AllReadyL.nil)))
  focus (refine step_appR rfl (.tmp 33) (.tmp 34) _ rfl w3.heap.size 38 (.agg #[.slice none 0 0, .int .i64 0]) 2 32 Try.underlying22 infoRow rfl (by decide) _ 0 [] rfl HR0.out A1 m.length c1 news rfl (HRW.out.below hHeld.below) Z1s3 Z1s4 hHeld.size ?_; intro v1_ w4_ HV1 hg; (try have HPX := hp_grown HPX hg (fun h => HNE.out (Option.some.inj h).symm)))
  refine hK.out _ _ (fun _ => ?_) (fun hHeld => ?_)
  ·exact Z1s5
  focus (have hHeld := hHeld (by decide); clear hK K; refine Zp1s ?_)
  refine wpAnyL_ready (rs := [4]) Z1s1 (by simp) (al4 (fun K hK => ?_) (AllReadyL.nil))
  focus (refine sl_newh (.cells #[.slice A' (cut r).f0.length c', .int .i64 r.f1] 38) 1 Z1s1 Z1s2 (fun g4_ w2 hg4_ hb2 HPX => ?_); (try have HNE := Lib.hid (show g4_ ≠ g0_ by have := hg4_.out; have := HP0.out.2; omega)); (try have HR0 := own_keepB HR0 hb2); (try have HV1 := own_keepB HV1 hb2); (try have HP0 := hp_keep HP0 hb2))
  refine hK.out _ _ (fun _ => ?_) (fun hHeld => ?_)
  ·exact hHeld.keep hb2
  focus (have hHeld := hHeld (by decide); clear hK K; refine Zp1s ?_)
  refine wpAnyL_ready (rs := [5]) Z1s1 (by simp) (al5 (fun K hK => ?_) (AllReadyL.nil))
  focus (refine step_appR rfl (.tmp 35) (.tmp 37) _ rfl w3.heap.size 38 (.agg #[.slice none 0 0, .int .i64 0]) 2 32 Try.underlying22 infoRow rfl (by decide) _ (0 + m.length) ([] ++ news) rfl HV1.out (some ⟨g4_, 0, none⟩) 1 1 [.slice A' (cut r).f0.length c', .int .i64 r.f1] rfl (raw_lit HPX rfl rfl) Z1s3 Z1s4 hHeld.size ?_; intro v2_ w5_ HV2 hg2)
  refine hK.out _ _ (fun _ => ?_) (fun hHeld => ?_)
  ·exact Z1s6
  focus (have hHeld := hHeld (by decide); clear hK K; refine Zp1s ?_)
  refine wpAnyL_ready (rs := [6]) Z1s1 (by simp) (al6 (fun K hK => ?_) (AllReadyL.nil))
  focus go_simp
  refine hK.out _ _ (fun h => absurd rfl h) (fun _ => ?_)
  focus (clear hK K; refine Zp1s ?_)
  refine wpAnyL_done Z1s1 ?_ _; rotate_left 1
  focus (refine sl_newh (.cells #[.slice A' (cut r).f0.length c', .int .i64 r.f1] 38) 1 Z1s1 Z1s2 (fun g4_ w2 hg4_ hb2 HPX => ?_); (try have HNE := Lib.hid (show g4_ ≠ g0_ by have := hg4_.out; have := HP0.out.2; omega)); (try have HR0 := own_keepB HR0 hb2); (try have HV1 := own_keepB HV1 hb2); (try have HP0 := hp_keep HP0 hb2))
  refine hK.out _ _ (fun _ => ?_) (fun hHeld => ?_)
  ·exact hHeld.keep hb2
  focus (have hHeld := hHeld (by decide); clear hK K; refine Zp1s ?_)
  refine wpAnyL_ready (rs := [2]) Z1s1 (by simp) (al2 (fun K hK => ?_) (AllReadyL.nil))
  focus (refine step_appR rfl (.tmp 33) (.tmp 34) _ rfl w3.heap.size 38 (.agg #[.slice none 0 0, .int .i64 0]) 2 32 Try.underlying22 infoRow rfl (by decide) _ 0 [] rfl HR0.out A1 m.length c1 news rfl (HRW.out.below hHeld.below) Z1s3 Z1s4 hHeld.size ?_; intro v1_ w4_ HV1 hg; (try have HPX := hp_grown HPX hg (fun h => HNE.out (Option.some.inj h).symm)))
  refine hK.out _ _ (fun _ => ?_) (fun hHeld => ?_)
  ·exact Z1s5
  focus (have hHeld := hHeld (by decide); clear hK K; refine Zp1s ?_)
  refine wpAnyL_ready (rs := [5]) Z1s1 (by simp) (al5 (fun K hK => ?_) (AllReadyL.nil))
  focus (refine step_appR rfl (.tmp 35) (.tmp 37) _ rfl w3.heap.size 38 (.agg #[.slice none 0 0, .int .i64 0]) 2 32 Try.underlying22 infoRow rfl (by decide) _ (0 + m.length) ([] ++ news) rfl HV1.out (some ⟨g4_, 0, none⟩) 1 1 [.slice A' (cut r).f0.length c', .int .i64 r.f1] rfl (raw_lit HPX rfl rfl) Z1s3 Z1s4 hHeld.size ?_; intro v2_ w5_ HV2 hg2)
  refine hK.out _ _ (fun _ => ?_) (fun hHeld => ?_)
  ·exact Z1s6
  focus (have hHeld := hHeld (by decide); clear hK K; refine Zp1s ?_)
  refine wpAnyL_ready (rs := [6]) Z1s1 (by simp) (al6 (fun K hK => ?_) (AllReadyL.nil))
  focus go_simp
  refine hK.out _ _ (fun h => absurd rfl h) (fun _ => ?_)
  focus (clear hK K; refine Zp1s ?_)
  refine wpAnyL_done Z1s1 ?_ _; rotate_left 1
  focus (refine sl_newh (.cells #[.slice A' (cut r).f0.length c', .int .i64 r.f1] 38) 1 Z1s1 Z1s2 (fun g4_ w2 hg4_ hb2 HPX => ?_); (try have HNE := Lib.hid (show g4_ ≠ g0_ by have := hg4_.out; have := HP0.out.2; omega)); (try have HR0 := own_keepB HR0 hb2); (try have HV1 := own_keepB HV1 hb2); (try have HP0 := hp_keep HP0 hb2))
  refine hK.out _ _ (fun _ => ?_) (fun hHeld => ?_)
  ·exact hHeld.keep hb2
  focus (have hHeld := hHeld (by decide); clear hK K; refine Zp1s ?_)
  refine wpAnyL_ready (rs := [0]) Z1s1 (by simp) (al0 (fun K hK => ?_) (AllReadyL.nil))
  focus (refine sl_newh (.cells #[] 38) 0 Z1s1 Z1s2 (fun g0_ w2 hg0_ hb2 HP0 => ?_); have HG0 := Lib.hid (Nat.le_trans hHeld.size (Nat.le_of_eq hg0_.out.symm)); have HR0 := own_none (w := w3) (size := 2) HP0 HG0.out; (try have HNE := Lib.hid (show g4_ ≠ g0_ by have := hg0_.out; have := HPX.out.2; omega)); (try have HPX := hp_keep HPX hb2))
  refine hK.out _ _ (fun _ => ?_) (fun hHeld => ?_)
  ·exact hHeld.keep hb2
  focus (have hHeld := hHeld (by decide); clear hK K; refine Zp1s ?_)
  refine wpAnyL_ready (rs := [2]) Z1s1 (by simp) (al2 (fun K hK => ?_) (AllReadyL.nil))
  focus (refine step_appR rfl (.tmp 33) (.tmp 34) _ rfl w3.heap.size 38 (.agg #[.slice none 0 0, .int .i64 0]) 2 32 Try.underlying22 infoRow rfl (by decide) _ 0 [] rfl HR0.out A1 m.length c1 news rfl (HRW.out.below hHeld.below) Z1s3 Z1s4 hHeld.size ?_; intro v1_ w4_ HV1 hg; (try have HPX := hp_grown HPX hg (fun h => HNE.out (Option.some.inj h).symm)))
  refine hK.out _ _ (fun _ => ?_) (fun hHeld => ?_)
  ·exact Z1s5
  focus (have hHeld := hHeld (by decide); clear hK K; refine Zp1s ?_)
  refine wpAnyL_ready (rs := [5]) Z1s1 (by simp) (al5 (fun K hK => ?_) (AllReadyL.nil))
  focus (refine step_appR rfl (.tmp 35) (.tmp 37) _ rfl w3.heap.size 38 (.agg #[.slice none 0 0, .int .i64 0]) 2 32 Try.underlying22 infoRow rfl (by decide) _ (0 + m.length) ([] ++ news) rfl HV1.out (some ⟨g4_, 0, none⟩) 1 1 [.slice A' (cut r).f0.length c', .int .i64 r.f1] rfl (raw_lit HPX rfl rfl) Z1s3 Z1s4 hHeld.size ?_; intro v2_ w5_ HV2 hg2)
  refine hK.out _ _ (fun _ => ?_) (fun hHeld => ?_)
  ·exact Z1s6
  focus (have hHeld := hHeld (by decide); clear hK K; refine Zp1s ?_)
  refine wpAnyL_ready (rs := [6]) Z1s1 (by simp) (al6 (fun K hK => ?_) (AllReadyL.nil))
  focus go_simp
  refine hK.out _ _ (fun h => absurd rfl h) (fun _ => ?_)
  focus (clear hK K; refine Zp1s ?_)
  refine wpAnyL_done Z1s1 ?_ _; rotate_left 1
  all_goals exact HΦ.out g0_ v1_ g4_ v2_ w5_ ⟨HV2, hHeld.below⟩
 ·intro g0 v1 g4 v2 w5 hf
  have hCm := (Kd.C_below HEN.out.2 hf.2)
  have hE : Enc k38 w5 (m ++ [cut r]) ([] ++ news ++ [.slice A' (cut r).f0.length c', .int .i64 r.f1]) := by
   rw [List.nil_append]
   refine (HEN.out.1.below hf.2).app (Enc.one rfl ?_)
   refine k38_mk w5 (cut r) (A0 := A') (c0 := c') ?_ ?_
   ·have h1 : (cut r).f0.length ≤ r.f0.length := by show (r.f0.take 70).length ≤ _; rw [List.length_take]; omega
    omega
   ·have hb5 : Below w.heap.size w w5 := HB.out.trans (hf.2.mono HB.out.size)
    exact Kd.C_below (Kd.C_take HCR.out (by show (r.f0.take 70).length ≤ _; rw [List.length_take]; omega) |> fun h => (by
     have e : r.f0.take (r.f0.take 70).length = r.f0.take 70 := by
      rw [List.length_take]
      rcases Nat.le_total r.f0.length 70 with h | h
      ·rw [Nat.min_eq_right h, List.take_of_length_le (Nat.le_refl _), List.take_of_length_le h]
      ·rw [Nat.min_eq_left h]
     rw [e] at h
     exact h)) hb5
  obtain ⟨A2, c2, rfl, hc2, hC2⟩ := own_C (d := k38) hf.1.out hE (by rw [List.length_append, List.length_singleton, Nat.zero_add]) Z1s3
  have en : 0 + m.length + 1 = (m ++ [cut r]).length := by rw [List.length_append, List.length_singleton, Nat.zero_add]
  rw [en] at hc2 hC2 ⊢
  clear en
  have HFI2 := Lib.hid (show ∀ x, x ∈ m ++ [cut r] → RowIn x from fun x hx => by
   rcases List.mem_append.1 hx with hx | hx
   ·exact HFI.out x hx
   ·rw [List.mem_singleton.1 hx]
    exact ⟨HIN.out.2.1.1, fun y hy => HIN.out.2.1.2 y (List.mem_of_mem_take hy)⟩)
  have HB := Lib.hid (HB.out.trans (hf.2.mono HB.out.size))
  have hc1 := (Kd.S_reads' HS1.out).2.1
  have hmo := fun fu => more_ok (l := m) (r := cut r) HFI2.out v fu
  have HFI3 := HFI2.out
  obtain ⟨mr, hmr⟩ : ∃ mr, m ++ [cut r] = mr := ⟨_, rfl⟩
  rw [hmr] at hc2 hC2 HFI3 ⊢
  simp only [hmr] at hmo
  have HFI2 := Lib.hid HFI3
  have HCM := Lib.hid (And.intro hCm (And.intro hC2 (And.intro hc1 hc2)))
  clear HFI3 hmr
  have hfu : In64 (min fuel 300) := by
   have := HIN.out.2.2.2
   unfold In64 at this ⊢
   omega
  clear hf hCm hE hc2 hC2 hc1 HEN HRW HC3 HLT HBX HS1 HC HCC HCR
  generalize min fuel 300 = fu at hfu ⊢
  have HFU := Lib.hid hfu
  obtain ⟨s1, hs1⟩ : ∃ s, solve (m.map toZ) v fu = s := ⟨_, rfl⟩
  obtain ⟨s2, hs2⟩ : ∃ s, solve (mr.map toZ) v fu = s := ⟨_, rfl⟩
  have hmo := hmo fu
  have hft := (solve_fit HFI2.out v fu).1
  rw [hs1, hs2] at hmo
  rw [hs2] at hft
  have HMO := Lib.hid (And.intro hmo hft)
  have HS1 := Lib.hid hs1
  have HS2 := Lib.hid hs2
  clear hfu hmo hft hs1 hs2
  go_wp2_with fail
  refine (solve_row HCM.out.1 HCM.out.2.2.1 HFI.out HFU.out HS1.out).mono ?_
  rintro e w6 ⟨⟨A3, c3, vw3, rfl, hc3, hC3⟩, hb1⟩
  have HB := Lib.hid (HB.out.trans (hb1.mono HB.out.size))
  have HCM := Lib.hid (show Kd.C k38 w6 A1 m.length m ∧ Kd.C k38 w6 A2 mr.length mr ∧ m.length ≤ c1 ∧ mr.length ≤ c2 from ⟨Kd.C_below HCM.out.1 hb1, Kd.C_below HCM.out.2.1 hb1, HCM.out.2.2⟩)
  clear hb1 hc3 hC3
  go_wp2_with fail
  refine (solve_row HCM.out.2.1 HCM.out.2.2.2 HFI2.out HFU.out HS2.out).mono ?_
  rintro e w7 ⟨⟨A4, c4, vw4, rfl, hc4, hC4⟩, hb1⟩
  have HB := Lib.hid (HB.out.trans (hb1.mono HB.out.size))
  have HCM := Lib.hid (show Kd.C k38 w7 A1 m.length m ∧ m.length ≤ c1 ∧ Kd.C k29 w7 A4 s2.2.1.length (s2.2.1.map ofQ) ∧ s2.2.1.length ≤ c4 from ⟨Kd.C_below HCM.out.1 hb1, HCM.out.2.2.1, hC4, hc4⟩)
  clear hb1 hc4 hC4
  by_cases h2 : s2.1 = 1
  ·have h1 : s1.1 ≠ 2 := fun h => HMO.out.1.1 ⟨h, h2⟩
   have e1 : (s1.1 = 2) = False := eq_false h1
   have e1b : (s1.1 == 2) = false := beq_eq_false_iff_ne.2 h1
   clear h1
   rw [h2]
   go_wp2_with fail
   refine (chk_row HCM.out.1 HCM.out.2.1 HFI.out HCM.out.2.2.1 HCM.out.2.2.2 HMO.out.2 (HMO.out.1.2 h2)).mono ?_
   rintro e w8 ⟨rfl, hb1⟩
   have HB := Lib.hid (HB.out.trans (hb1.mono HB.out.size))
   clear hb1 h2
   go_wp2_with fail
   generalize w8 = wz at HB ⊢
   clear e1 e1b
   by_cases hv : 0 ≤ v ∧ v ≤ 64
   ·obtain ⟨n, rfl⟩ : ∃ n : Nat, v = n := ⟨v.toNat, by omega⟩
    refine (solve_row (l := []) (A := none) (c := 0) (Kd.C_nil _ _) (Nat.le_refl 0) (fun r hr => by cases hr) HFU.out (s := (1, List.replicate n 0, [])) Z1s7).mono ?_
    rintro e w9 ⟨⟨A5, c5, vw5, rfl, hc5, hC5⟩, hb1⟩
    have HB := Lib.hid (HB.out.trans (hb1.mono HB.out.size))
    have e3 : ((0 : Int) ≤ (n : Int)) = True := eq_true hv.1
    have e4 : ((n : Int) ≤ 64) = True := eq_true hv.2
    clear hb1 hc5 hC5 hv
    dsimp only
    rw [List.length_replicate]
    go_wp2
    go_ret
    exact ⟨rfl, HB.out⟩
   ·refine (solve_row (l := []) (A := none) (c := 0) (Kd.C_nil _ _) (Nat.le_refl 0) (fun r hr => by cases hr) HFU.out (s := (0, [], [])) Z1s8).mono ?_
    rintro e w9 ⟨⟨A5, c5, vw5, rfl, hc5, hC5⟩, hb1⟩
    have HB := Lib.hid (HB.out.trans (hb1.mono HB.out.size))
    clear hb1 hc5 hC5
    by_cases h0 : 0 ≤ v
    ·have e3 : (0 ≤ v) = True := eq_true h0
     have e4 : (v ≤ 64) = False := eq_false (fun h => hv ⟨h0, h⟩)
     clear hv h0
     go_wp2
     go_ret
     exact ⟨rfl, HB.out⟩
    ·have e3 : (0 ≤ v) = False := eq_false h0
     clear hv h0
     go_wp2
     go_ret
     exact ⟨rfl, HB.out⟩
  ·have e2 : (s2.1 = 1) = False := eq_false h2
   have e2b : (s2.1 == 1) = false := beq_eq_false_iff_ne.2 h2
   by_cases h1 : s1.1 = 2
   ·rw [h1]
    go_wp2_with fail
    generalize w7 = wz at HB ⊢
    clear e2 e2b h1 h2
    by_cases hv : 0 ≤ v ∧ v ≤ 64
    ·obtain ⟨n, rfl⟩ : ∃ n : Nat, v = n := ⟨v.toNat, by omega⟩
     refine (solve_row (l := []) (A := none) (c := 0) (Kd.C_nil _ _) (Nat.le_refl 0) (fun r hr => by cases hr) HFU.out (s := (1, List.replicate n 0, [])) Z1s7).mono ?_
     rintro e w9 ⟨⟨A5, c5, vw5, rfl, hc5, hC5⟩, hb1⟩
     have HB := Lib.hid (HB.out.trans (hb1.mono HB.out.size))
     have e3 : ((0 : Int) ≤ (n : Int)) = True := eq_true hv.1
     have e4 : ((n : Int) ≤ 64) = True := eq_true hv.2
     clear hb1 hc5 hC5 hv
     dsimp only
     rw [List.length_replicate]
     go_wp2
     go_ret
     exact ⟨rfl, HB.out⟩
    ·refine (solve_row (l := []) (A := none) (c := 0) (Kd.C_nil _ _) (Nat.le_refl 0) (fun r hr => by cases hr) HFU.out (s := (0, [], [])) Z1s8).mono ?_
     rintro e w9 ⟨⟨A5, c5, vw5, rfl, hc5, hC5⟩, hb1⟩
     have HB := Lib.hid (HB.out.trans (hb1.mono HB.out.size))
     clear hb1 hc5 hC5
     by_cases h0 : 0 ≤ v
     ·have e3 : (0 ≤ v) = True := eq_true h0
      have e4 : (v ≤ 64) = False := eq_false (fun h => hv ⟨h0, h⟩)
      clear hv h0
      go_wp2
      go_ret
      exact ⟨rfl, HB.out⟩
     ·have e3 : (0 ≤ v) = False := eq_false h0
      clear hv h0
      go_wp2
      go_ret
      exact ⟨rfl, HB.out⟩
   ·have e1 : (s1.1 = 2) = False := eq_false h1
    have e1b : (s1.1 == 2) = false := beq_eq_false_iff_ne.2 h1
    go_wp2_with fail
    generalize w7 = wz at HB ⊢
    clear e1 e1b e2 e2b h1 h2
    by_cases hv : 0 ≤ v ∧ v ≤ 64
    ·obtain ⟨n, rfl⟩ : ∃ n : Nat, v = n := ⟨v.toNat, by omega⟩
     refine (solve_row (l := []) (A := none) (c := 0) (Kd.C_nil _ _) (Nat.le_refl 0) (fun r hr => by cases hr) HFU.out (s := (1, List.replicate n 0, [])) Z1s7).mono ?_
     rintro e w9 ⟨⟨A5, c5, vw5, rfl, hc5, hC5⟩, hb1⟩
     have HB := Lib.hid (HB.out.trans (hb1.mono HB.out.size))
     have e3 : ((0 : Int) ≤ (n : Int)) = True := eq_true hv.1
     have e4 : ((n : Int) ≤ 64) = True := eq_true hv.2
     clear hb1 hc5 hC5 hv
     dsimp only
     rw [List.length_replicate]
     go_wp2
     go_ret
     exact ⟨rfl, HB.out⟩
    ·refine (solve_row (l := []) (A := none) (c := 0) (Kd.C_nil _ _) (Nat.le_refl 0) (fun r hr => by cases hr) HFU.out (s := (0, [], [])) Z1s8).mono ?_
     rintro e w9 ⟨⟨A5, c5, vw5, rfl, hc5, hC5⟩, hb1⟩
     have HB := Lib.hid (HB.out.trans (hb1.mono HB.out.size))
     clear hb1 hc5 hC5
     by_cases h0 : 0 ≤ v
     ·have e3 : (0 ≤ v) = True := eq_true h0
      have e4 : (v ≤ 64) = False := eq_false (fun h => hv ⟨h0, h⟩)
      clear hv h0
      go_wp2
      go_ret
      exact ⟨rfl, HB.out⟩
     ·have e3 : (0 ≤ v) = False := eq_false h0
      clear hv h0
      go_wp2
      go_ret
      exact ⟨rfl, HB.out⟩
end Go.Proofs.Ytdkbnbebioflaaa.Ln
